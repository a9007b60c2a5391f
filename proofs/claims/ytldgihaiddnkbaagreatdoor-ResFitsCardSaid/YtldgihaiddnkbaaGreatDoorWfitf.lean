/-
  WHAT THE LAW LEANS ON, part 6 of 6: a machine of values and its soundness; the functions of the law upon it; what they come to.
-/
import Derived.Test.YtldgihaiddnkbaaGreatDoorWfite
import Derived.Shelf.Strconv.Itoa3
import Derived.Shelf.Strconv.Itoa4
import Derived.Shelf.Strconv.ParseIntPublic10
import Derived.Shelf.Strconv.ErrVarParseInt
import Derived.Shelf.Small.Strs
import Derived.Shelf.Sort.Plain
import Derived.Shelf.Slices.In.SortNone
import Derived.Shelf.Slices.In.SortAlone
import Derived.Shelf.Small.Strs
import Derived.Shelf.Spec.BitsCarry
import Derived.Test.YtldgihaiddnkbaaGreatDoorRows
import Derived.Stop.LaidErr
import Derived.JoinedOf
set_option linter.unusedVariables false
set_option linter.unusedSimpArgs false
set_option maxRecDepth 100000
namespace Go.Aa.T
open Go.Aa Go.Proofs
def encV(v:List Amount):AV:=.sl .sh (v.map encA)
def allNames(vs:List (List Amount)):List (List UInt8):=vs.flatMap fun v=>v.map Amount.name
theorem allNames_cons(v:List Amount)(vs:List (List Amount)):allNames (v::vs)=v.map Amount.name++allNames vs:=rfl
def rM(kk:Nat):List (List UInt8)→AV
 |[]=>.sl .full []
 |_::l=>.msl kk 0 (l.length+1) 1
theorem strsA_map:∀l:List (List UInt8),strsA (l.map .str)=some l
 |[]=>rfl
 |s::l=>by simp[strsA,strsA_map l]
theorem sort_does{kk:Nat}{B:List (List AV)}{l:List (List UInt8)}(hk:B[kk]?=some (l.map .str))(h0:0<l.length)(hb:l.length≤140737488355328):
 Does cfg (.callM (.c (.func 96 [])) [.c (.msl kk 0 l.length 1)]) ⟨B,[],[]⟩ (.tuple []) ⟨B.set kk ((isort l).map .str),[],[]⟩:=by
 have h:lim cfg (.fn 96) [.msl kk 0 l.length 1] ⟨B,[],[]⟩=some (.ret (.tuple []),⟨B.set kk ((isort l).map .str),[],[]⟩):=by
  rw[lim_ext (g:=sortE) rfl rfl]
  have e:sortE [.msl kk 0 l.length 1] ⟨B,[],[]⟩=some (.tuple [],⟨B.set kk ((isort l).map .str),[],[]⟩):=by
   simp only[sortE,hk]
   rw[if_pos ⟨trivial,trivial,h0,by simp,hb⟩,List.take_of_length_le (by simp),strsA_map,List.drop_eq_nil_of_le (by simp)]
   simp
  rw[e];rfl
 have hd:=does_callM (xs:=[.msl kk 0 l.length 1]) h rfl rfl
 rwa [show shutA (.tuple [])=.tuple []from rfl,trunc_len (by simp)]at hd
theorem does_data{g:FuncId}{xs:List AV}{v:AV}(h:Gives cfg g xs v)(zs:List AV)(hx:zs.map shutA=xs)(hd:xs.all isData=true)(h1:shutA v=v)(h2:isData v=true)(H:Heap):
 Does cfg (.call (.c (.func g [])) (zs.map .c)) H v H∧Does cfg (.callM (.c (.func g [])) (zs.map .c)) H v H:=by
 obtain⟨H',h⟩:=h.ret
 constructor<;>intro T
 ·have e:(zs.map Opd.c).map (fun x=>shutA (ev T x))=xs:=by rw[List.map_map];exact hx
  simp only[opStep,e]
  rw[show ev T (.c (.func g []))=.func g []from rfl]
  simp only[callV,hd,List.all_nil,Bool.and_self,if_true,List.append_nil,h,dataOut,h1,h2]
 ·have e:(zs.map Opd.c).map (fun x=>shutA (ev T x))=xs:=by rw[List.map_map];exact hx
  simp only[opStep,e]
  rw[show ev T (.c (.func g []))=.func g []from rfl]
  simp only[callW,hd,List.all_nil,Bool.and_self,if_true,List.append_nil,h,h1,h2]
theorem sort_none:Gives cfg 96 [.sl .sh []] (.tuple []):=by
 have h:lim cfg (.fn 96) [.sl .sh []] Heap.nil=some (.ret (.tuple []),Heap.nil):=by rw[lim_ext (g:=sortE) rfl rfl];rfl
 exact Gives.of h
theorem compact_none:Gives cfg 97 [.sl .sh []] (.sl .sh []):=by
 refine Gives.run (l97 _ _) ?_
 exact gG 60 [] trivial (.len (show lenA false (.sl .sh [])=some (.int .i64 (↑[].length:Int))from len_sl _ _)<|.tt<|.fin ((.ret (.sl .sh []),{boxes:=[],toks:=[],loops:=[]:Heap})) rfl)
def FinN(acc:List (List UInt8)):ARes×Heap→Prop:=IsOut (.sl .sh ((namesOf acc).map .str))
theorem names_end(vs:List (List Amount))(acc:List (List UInt8))(B:List (List AV))(kk:Nat)(hB:acc=[]∨B[kk]?=some (acc.map .str))(hl:acc.length≤100000)(T:Env)(i:Nat)(hi:vs.length≤i)
 (hT:Has T [(3,rM kk acc),(8,.sl .sh (vs.map encV)),(9,.int .i64 vs.length),(10,.int .i64 i)]):Goes cfg a73 k73_0 T ⟨B,[],[]⟩ (FinN acc):=by
 cases acc with
 |nil=>
  have h1:=(does_data sort_none [.sl .full []] rfl rfl rfl rfl ⟨B,[],[]⟩).2
  have h2:=(does_data compact_none [.sl .full []] rfl rfl rfl rfl ⟨B,[],[]⟩).2
  exact let ζ1:Heap:={boxes:=B,toks:=[],loops:=[]:Heap};gG 60 _ hT (.no (dF ((↑i:Int)<(↑vs.length:Int)))<|.effY h1<|.effY h2<|.fin ((.ret (.sl .sh []),ζ1)) (by exact⟨_,rfl,rfl⟩))
 |cons x l=>
  have hk:B[kk]?=some ((x::l).map .str):=by simpa using hB
  have h1:=sort_does hk (by simp) (by omega)
  have hkl:kk<B.length:=(List.getElem?_eq_some_iff.1 hk).1
  obtain⟨m,C,h2,h3,h4,h5⟩:=compact_any kk (x::l).length B (by omega) hkl (isort (x::l)) (isort_length _) (by simp)
  rw[List.length_cons]at h1 h2 h5
  have hout:dataOut ⟨B.set kk (C.map .str),[],[]⟩ (.msl kk 0 m 1)=some (.sl .sh ((namesOf (x::l)).map .str)):=by
   have:=out_box1 (bs:=B.set kk (C.map .str)) (tk:=[]) (ls:=[]) (kk:=kk) (n:=m) (List.getElem?_set_self hkl) (by simpa using h4) (strs_data C)
   rw[this,←List.map_take,h3];rfl
  exact let ζ1:Heap:={boxes:=B.set kk (List.map .str (isort (x::l))),toks:=[],loops:=[]:Heap};let ζ2:Heap:={boxes:=B.set kk (List.map .str C),toks:=[],loops:=[]:Heap};gG 60 _ hT (.no (dF ((↑i:Int)<(↑vs.length:Int)))<|.effY h1<|.effY h2<|.fin ((.ret (.msl kk (0:Nat) m (1:Nat)),ζ2)) (by exact⟨_,rfl,hout⟩))
theorem names_outer(vs:List (List Amount))(hv:vs.length≤100)(hs:∀v∈vs,v.length≤100):∀(post:List (List Amount))(i:Nat)(hd:vs.drop i=post)(hi:i≤vs.length)(acc:List (List UInt8))(B:List (List AV))(kk:Nat)(hB:acc=[]∨B[kk]?=some (acc.map .str))(hl:acc.length≤100*i)(T:Env)
 (hT:Has T [(3,rM kk acc),(8,.sl .sh (vs.map encV)),(9,.int .i64 vs.length),(10,.int .i64 i)]),Goes cfg a73 k73_0 T ⟨B,[],[]⟩ (FinN (acc++allNames post)):=by
 intro post
 induction post with
 |nil=>
  intro i hd hi acc B kk hB hl T hT
  have hge:=drop_ge hd
  rw[show acc++allNames []=acc by simp[allNames]]
  exact names_end vs acc B kk hB (by omega) T i hge hT
 |cons v post ih=>
  intro i hd hi acc B kk hB hl T hT
  have hlt:=drop_lt hd
  have hnx:=drop_next hd
  have hvl:=hs v (drop_mem hd)
  have hix:idxA 1 (.sl .sh (vs.map encV)) (.int .i64 (i:Nat))=some (.ref [encV v]):=idx_row (f:=encV) hd rfl
  have inner:∀(ip:List Amount)(j:Nat)(hj:v.drop j=ip)(hj0:j≤v.length)(acc:List (List UInt8))(B:List (List AV))(kk:Nat)(hB:acc=[]∨B[kk]?=some (acc.map .str))(hl:acc.length≤100*i+j)(T:Env)
   (hT:Has T [(3,rM kk acc),(8,.sl .sh (vs.map encV)),(9,.int .i64 vs.length),(10,.int .i64 i),(14,encV v),(15,.int .i64 v.length),(16,.int .i64 j)]),Goes cfg a73 k73_1 T ⟨B,[],[]⟩ (FinN (acc++(ip.map Amount.name++allNames post))):=by
   intro ip
   induction ip with
   |nil=>
    intro j hj hj0 acc B kk hB hl T hT
    have hge:=drop_ge hj
    have ih':=ih (i+1) hnx hlt acc B kk hB (by omega)
    rw[List.map_nil,List.nil_append]
    exact gG 60 _ hT (.no (dF ((↑j:Int)<(↑v.length:Int)))<|.bin (iI i)<|.cutQ k73_0 [(3,rM kk acc),(8,.sl .sh (vs.map encV)),(9,.int .i64 (↑vs.length)),(10,.int .i64 (↑(i+1)))] ({boxes:=B,toks:=[],loops:=[]:Heap}) (fun T hT=>(ih' T hT)))
   |cons x ip ihj=>
    intro j hj hj0 acc B kk hB hl T hT
    have hltj:=drop_lt hj
    have hnxj:=drop_next hj
    have hxi:idxA 2 (encV v) (.int .i64 (j:Nat))=some (.ref [.str x.name,.int .i64 x.n]):=idx_row (f:=encA) hj rfl
    have e:acc++((x::ip).map Amount.name++allNames post)=(acc++[x.name])++(ip.map Amount.name++allNames post):=by simp
    rw[e]
    cases acc with
    |nil=>
     have ap:=does_newB (es:=1) (b:=16) (B:=B++[(encA x).cells]) (tk:=[]) (ls:=[]) (v:=.str x.name) (sk:=.full) rfl rfl (by omega)
     have ih':=ihj (j+1) hnxj hltj [x.name] (B++[(encA x).cells]++[[AV.str x.name]]) (B++[(encA x).cells]).length (.inr (by simp)) (by simp;omega)
     exact let ζ1:Heap:={boxes:=B++[[AV.str x.name,.int .i64 x.n]],toks:=[],loops:=[]:Heap};gG 90 _ hT (.yes (dT ((↑j:Int)<(↑v.length:Int)))<|.idx hxi<|.load (rfl:loadA true 2 {boxes:=B,toks:=[],loops:=[]:Heap} (.ref [.str x.name,.int .i64 x.n])=some (.agg [.str x.name,.int .i64 x.n]))<|.store (show storeA 2 {boxes:=B++[[AV.str [],.int .i64 0]],toks:=[],loops:=[]:Heap} (.ptr B.length (0:Nat)) (.agg [.str x.name,.int .i64 x.n])=some (ζ1)from store_box2 (cs:=[.str [],.int .i64 0]) (cs':=[.str x.name,.int .i64 x.n]) (by simp+zetaDelta) rfl (by simp+zetaDelta [List.set_append]))<|.load (lB false 1 ζ1 B.length 0 (.str x.name) [.str x.name,.int .i64 x.n])<|.effY ap<|.bin (iI j)<|.cutQ k73_1 [(3,.msl (B++[[AV.str x.name,.int .i64 x.n]]).length (0:Nat) (1:Nat) (1:Nat)),(8,.sl .sh (vs.map encV)),(9,.int .i64 (↑vs.length)),(10,.int .i64 ↑i),(14,.sl .sh (v.map encA)),(15,.int .i64 (↑v.length)),(16,.int .i64 (↑(j+(1:Nat)):Int))] ({boxes:=B++[[AV.str x.name,.int .i64 x.n]]++[[AV.str x.name]],toks:=[],loops:=[]:Heap}) (fun T hT=>(ih' T hT)))
    |cons y l=>
     have hk:B[kk]?=some ((y::l).map .str):=by simpa using hB
     have hk2:(B++[(encA x).cells])[kk]?=some ((y::l).map .str):=by rw[List.getElem?_append_left (List.getElem?_eq_some_iff.1 hk).1,hk]
     have ap:=does_growB (es:=1) (b:=16) (n:=l.length+1) (tk:=[]) (ls:=[]) (v:=.str x.name) (sk:=.full) hk2 (by simp) (by omega) (strs_data _) rfl rfl (by simp at hl;omega)
     obtain⟨D,hD⟩:∃D,D=(y::l).map AV.str++(AV.str x.name).cells:=⟨_,rfl⟩
     rw[←hD]at ap
     have ih':=ihj (j+1) hnxj hltj ((y::l)++[x.name]) ((B++[(encA x).cells]).set kk []++[D]) (B++[(encA x).cells]).length (.inr (by
      rw[List.getElem?_append_right (by simp),hD];simp[AV.cells])) (by simp at hl⊢;omega)
     have er:rM (B++[(encA x).cells]).length ((y::l)++[x.name])=.msl (B++[(encA x).cells]).length 0 (l.length+1+1) 1:=by simp[rM]
     rw[er]at ih'
     exact let ζ1:Heap:={boxes:=(B++[(encA x).cells]).set kk []++[D],toks:=[],loops:=[]:Heap};let ζ2:Heap:={boxes:=B++[[AV.str x.name,.int .i64 x.n]],toks:=[],loops:=[]:Heap};gG 90 _ hT (.yes (dT ((↑j:Int)<(↑v.length:Int)))<|.idx hxi<|.load (rfl:loadA true 2 {boxes:=B,toks:=[],loops:=[]:Heap} (.ref [.str x.name,.int .i64 x.n])=some (.agg [.str x.name,.int .i64 x.n]))<|.store (show storeA 2 {boxes:=B++[[AV.str [],.int .i64 0]],toks:=[],loops:=[]:Heap} (.ptr B.length (0:Nat)) (.agg [.str x.name,.int .i64 x.n])=some (ζ2)from store_box2 (cs:=[.str [],.int .i64 0]) (cs':=[.str x.name,.int .i64 x.n]) (by simp+zetaDelta) rfl (by simp+zetaDelta [List.set_append]))<|.load (lB false 1 ζ2 B.length 0 (.str x.name) [.str x.name,.int .i64 x.n])<|.effY ap<|.bin (iI j)<|.cutQ k73_1 [(3,.msl (B++[[AV.str x.name,.int .i64 x.n]]).length (0:Nat) (l.length+(1:Nat)+(1:Nat)) (1:Nat)),(8,.sl .sh (vs.map encV)),(9,.int .i64 (↑vs.length)),(10,.int .i64 ↑i),(14,.sl .sh (v.map encA)),(15,.int .i64 (↑v.length)),(16,.int .i64 (↑(j+(1:Nat)):Int))] (ζ1) (fun T hT=>(ih' T hT)))
  have h2:=inner v 0 rfl (Nat.zero_le _) acc B kk hB (by omega)
  rw[allNames_cons]
  exact let ζ1:Heap:={boxes:=B,toks:=[],loops:=[]:Heap};gG 60 _ hT (.yes (dT ((↑i:Int)<(↑vs.length:Int)))<|.idx hix<|.load (rfl:loadA false 1 ζ1 (.ref [.sl .sh (v.map encA)])=some (.sl .sh (v.map encA)))<|.len (lM .sh encA v)<|.cutQ k73_1 [(3,rM kk acc),(8,.sl .sh (vs.map encV)),(9,.int .i64 (↑vs.length)),(10,.int .i64 ↑i),(14,.sl .sh (v.map encA)),(15,.int .i64 (↑v.length)),(16,.int .i64 0)] (ζ1) (fun T hT=>(h2 T hT)))
theorem names_any(vs:List (List Amount))(hv:vs.length≤100)(hs:∀v∈vs,v.length≤100):GivesF cfg 73 [.sl .sh (vs.map encV)] (.sl .sh ((namesOf (allNames vs)).map .str)):=by
 refine GivesF.run (l73 _ _) ?_
 have h:=names_outer vs hv hs vs 0 rfl (Nat.zero_le _) [] [] 0 (.inl rfl) (by simp)
 exact gG 60 [] trivial (.len (lM .sh encV vs)<|.cutQ k73_0 [(3,.sl .full []),(8,.sl .sh (vs.map encV)),(9,.int .i64 (↑vs.length)),(10,.int .i64 0)] ({boxes:=[],toks:=[],loops:=[]:Heap}) (fun T hT=>(h T hT)))
end Go.Aa.T
set_option linter.unusedVariables false
set_option linter.unusedSimpArgs false
set_option maxRecDepth 100000
namespace Go.Aa.T
open Go.Aa Go.Proofs
theorem bl_eq(x y:List UInt8):Op.bytesLess x y=decide (x<y):=bytesLess_eq x y
theorem bl_irrefl(x:List UInt8):Op.bytesLess x x=false:=by rw[bl_eq];simp[List.lt_irrefl]
theorem bl_trans{x y z:List UInt8}(h1:Op.bytesLess x y=true)(h2:Op.bytesLess y z=true):Op.bytesLess x z=true:=by
 rw[bl_eq,decide_eq_true_eq]at h1 h2⊢
 exact List.lt_trans h1 h2
theorem bl_not{x y:List UInt8}(h:(Op.bytesLess x y||x==y)=false):Op.bytesLess y x=true:=by
 simp only[Bool.or_eq_false_iff,beq_eq_false_iff_ne,bl_eq,decide_eq_false_iff_not]at h
 rw[bl_eq,decide_eq_true_eq]
 obtain⟨h1,h2⟩:=h
 by_cases h3:y<x
 ·exact h3
 ·exact absurd (List.le_antisymm (List.not_lt.1 h3) (List.not_lt.1 h1)) h2
theorem bl_asym{x y:List UInt8}(h:Op.bytesLess x y=true):(Op.bytesLess y x||y==x)=false:=by
 rw[Bool.or_eq_false_iff]
 constructor
 ·cases h':Op.bytesLess y x with
  |false=>rfl
  |true=>have:=bl_trans h h';rw[bl_irrefl]at this;cases this
 ·rw[beq_eq_false_iff_ne]
  rintro rfl
  rw[bl_irrefl]at h;cases h
abbrev Rise(l:List (List UInt8)):Prop:=l.Pairwise fun x y=>Op.bytesLess x y=true
theorem rise_ext:∀{l m:List (List UInt8)},Rise l→Rise m→(∀x,x∈l↔x∈m)→l=m
 |[],[],_,_,_=>rfl
 |[],y::m,_,_,h=>absurd ((h y).2 (by simp)) (by simp)
 |x::l,[],_,_,h=>absurd ((h x).1 (by simp)) (by simp)
 |x::l,y::m,h1,h2,h=>by
  have a1:∀z,z∈l→Op.bytesLess x z=true:=fun z hz=>List.rel_of_pairwise_cons h1 hz
  have a2:∀z,z∈m→Op.bytesLess y z=true:=fun z hz=>List.rel_of_pairwise_cons h2 hz
  have e:x=y:=by
   rcases List.mem_cons.1 ((h x).1 (by simp))with e|hx
   ·exact e
   ·rcases List.mem_cons.1 ((h y).2 (by simp))with e|hy
    ·exact e.symm
    ·have:=bl_trans (a1 _ hy) (a2 _ hx)
     rw[bl_irrefl]at this;cases this
  subst e
  congr 1
  refine rise_ext (List.Pairwise.of_cons h1) (List.Pairwise.of_cons h2) fun z=> ?_
  have hz:=h z
  simp only[List.mem_cons]at hz
  constructor
  ·intro h3
   rcases hz.1 (.inr h3)with e|h4
   ·subst e;have:=a1 _ h3;rw[bl_irrefl]at this;cases this
   ·exact h4
  ·intro h3
   rcases hz.2 (.inr h3)with e|h4
   ·subst e;have:=a2 _ h3;rw[bl_irrefl]at this;cases this
   ·exact h4
theorem uqG_mem(x z:List UInt8):∀{l:List (List UInt8)},z∈uqG x l→z∈l
 |[],h=>by simp[uqG]at h
 |y::l,h=>by
  unfold uqG at h
  split at h
  ·exact List.mem_cons_of_mem _ (uqG_mem x z h)
  ·rcases List.mem_cons.1 h with rfl|h
   ·simp
   ·exact List.mem_cons_of_mem _ (uqG_mem y z h)
theorem uqG_mem2(z:List UInt8):∀{l:List (List UInt8)}{x:List UInt8},z∈l→z=x∨z∈uqG x l
 |[],x,h=>by simp at h
 |y::l,x,h=>by
  unfold uqG
  by_cases e:y=x
  ·rw[if_pos e]
   rcases List.mem_cons.1 h with rfl|h
   ·exact .inl e
   ·exact uqG_mem2 z h
  ·rw[if_neg e]
   rcases List.mem_cons.1 h with rfl|h
   ·exact .inr (by simp)
   ·rcases uqG_mem2 (x:=y) z h with h2|h2
    ·exact .inr (by simp[h2])
    ·exact .inr (by simp[h2])
theorem uq_mem{z:List UInt8}{l:List (List UInt8)}:z∈uq l↔z∈l:=by
 cases l with
 |nil=>simp[uq]
 |cons x l=>
  simp only[uq,List.mem_cons]
  constructor
  ·rintro(h|h)
   ·exact .inl h
   ·exact .inr (uqG_mem x z h)
  ·rintro(h|h)
   ·exact .inl h
   ·exact uqG_mem2 z h
theorem le_ne_bl{x y:List UInt8}(h:x≤y)(hn:y≠x):Op.bytesLess x y=true:=by
 rw[bl_eq,decide_eq_true_eq]
 by_cases h3:x<y
 ·exact h3
 ·exact absurd (List.le_antisymm (List.not_lt.1 h3) h) hn
theorem uqG_rise:∀{l:List (List UInt8)}{x:List UInt8},(x::l).Pairwise (·≤·)→Rise (x::uqG x l)
 |[],x,_=>by simp[uqG,Rise]
 |y::l,x,h=>by
  have h1:∀{z},z∈y::l→x≤z:=fun hz=>List.rel_of_pairwise_cons h hz
  have h2:=List.Pairwise.of_cons h
  unfold uqG
  by_cases e:y=x
  ·rw[if_pos e]
   refine uqG_rise ?_
   refine List.Pairwise.cons (fun z hz=>h1 (List.mem_cons_of_mem _ hz)) (List.Pairwise.of_cons h2)
  ·rw[if_neg e]
   have h3:=uqG_rise h2
   refine List.Pairwise.cons (fun z hz=> ?_) h3
   have hxy:=le_ne_bl (h1 (by simp)) e
   rcases List.mem_cons.1 hz with rfl|hz
   ·exact hxy
   ·exact bl_trans hxy (List.rel_of_pairwise_cons h3 hz)
theorem namesOf_rise(l:List (List UInt8)):Rise (namesOf l):=by
 unfold namesOf
 have h:=isort_sorted l
 cases hl:isort l with
 |nil=>simp[uq,Rise]
 |cons x m=>rw[hl]at h;exact uqG_rise h
theorem namesOf_mem{l:List (List UInt8)}{z:List UInt8}:z∈namesOf l↔z∈l:=by
 unfold namesOf
 rw[uq_mem,(isort_perm l).mem_iff]
abbrev nms(v:List Amount):List (List UInt8):=v.map Amount.name
def rowT(l:List (List UInt8)):AV:=rowS Heap.nil (l.map .str)
end Go.Aa.T
set_option linter.unusedVariables false
set_option linter.unusedSimpArgs false
set_option maxRecDepth 100000
namespace Go.Aa.T
open Go.Aa Go.Proofs
def stopV(e:Int):AV:=.iface 103 (.agg [.int .i64 e])
theorem stop_ok:Gives cfg 61 [.int .i64 0] (.tuple []):=by
 refine Gives.run (l61 _ _) ?_
 exact gG 60 [] trivial (.ff<|.fin ((.ret (.tuple []),{boxes:=[],toks:=[],loops:=[]:Heap})) rfl)
theorem stop_pan{e:Int}(h:¬e=0):Pans cfg 61 [.int .i64 e] (stopV e):=by
 refine Pans.run (l61 _ _) ?_
 exact gG 60 [] trivial (.op (.bin .neq (.c (.int .i64 e)) (.c (.int .i64 0))) (.bool true) (pure_step (fun _=>neqT (k:=.i64) h) fun _ _ _=>rfl)<|.tt<|.panicI 103 (.agg [.int .i64 e]) Heap.nil rfl)
def skF{X:Type}:List X→SK
 |[]=>.full
 |_::_=>.own 0
instance{X:Type}(l:List X)(xs:List AV):Shut (.sl (skF l) xs) (.sl .sh xs):=⟨by cases l<;>exact⟨rfl,rfl⟩⟩
section
variable{X:Type}(enc:X→AV)
def tkR(acc:List X):List Nat:=(rowH Heap.nil (acc.map enc)).toks
theorem tk_cons(x:X)(l:List X):tkR enc (x::l)=[l.length+1]:=by simp[tkR,rowH,Heap.nil]
def rowF(l:List X):AV:=.sl (skF l) (l.map enc)
instance(l:List X):Shut (rowF enc l) (.sl .sh (l.map enc)):=⟨by cases l<;>exact⟨rfl,rfl⟩⟩
theorem rowF_eq(l:List X):rowF enc l=rowS Heap.nil (l.map enc):=by cases l<;>rfl
theorem row_append_T{x:X}{es bytes:Nat}{bs:List (List AV)}{ls:List LRec}{ys:List X}(h:((ys.map enc).length+1)*bytes≤140737488355328)(hl:lenOk es (ys.map enc)=true)(hv:cellsN es (enc x)=true)(hd:dataOk [enc x]=true):
 appendA es bytes ⟨bs,tkR enc ys,ls⟩ (rowF enc ys) (.sl .full [enc x])=some (rowF enc (ys++[x]),⟨bs,tkR enc (ys++[x]),ls⟩):=by
 rw[rowF_eq,rowF_eq]
 have hh:=row_append_map (f:=enc) (x:=x) (H:=Heap.nil) h hl hv hd
 cases ys with
 |nil=>
  simp only[rowS,rowH,List.map_nil,List.nil_append,List.map_cons,tkR,Heap.nil]at hh⊢
  simp only[appendA]at hh⊢
  split at hh
  ·rename_i hc;rw[if_pos hc];rfl
  ·cases hh
 |cons y ys=>
  simp only[rowS,rowH,List.cons_append,List.map_cons,tkR,Heap.nil]at hh⊢
  simp only[appendA]at hh⊢
  split at hh
  ·rename_i hc
   rw[if_pos hc]
   split at hh
   ·rename_i hc2
    rw[if_pos hc2]
    simp only[Option.some.injEq,Prod.mk.injEq,Heap.mk.injEq,true_and,and_true]at hh⊢
    exact hh
   ·cases hh
  ·cases hh
end
end Go.Aa.T
set_option linter.unusedVariables false
set_option linter.unusedSimpArgs false
set_option maxRecDepth 100000
namespace Go.Aa.T
open Go.Aa Go.Proofs
abbrev OfQ:=List UInt8→Int×Int
def madeF(g:OfQ):List (List UInt8)→List Amount→List Amount×Int
 |[],acc=>(acc,0)
 |s::r,acc=>if(g s).2=0 then madeF g r (if 0<(g s).1 then acc++[⟨s,(g s).1⟩]else acc)else([],(g s).2)
def finV(p:List Amount×Int):List Amount×Int:=if p.2=0 then(if 8<p.1.length then([],4)else(p.1,0))else([],p.2)
def madeV(g:OfQ)(vs:List (List Amount)):List Amount×Int:=
 if firstE (vs.map ckV)=0 then finV (madeF g (namesOf (allNames vs)) [])else([],firstE (vs.map ckV))
theorem trunc_self{v:AV}{H:Heap}:trunc H.boxes.length H.toks.length v H=H:=by
 unfold trunc
 have e1:∀(b:Bool),(if b=true then H.boxes.take H.boxes.length else H.boxes)=H.boxes:=fun b=>by
  split
  ·exact List.take_of_length_le (Nat.le_refl _)
  ·rfl
 have e2:∀(b:Bool),(if b=true then H.toks.take H.toks.length else H.toks)=H.toks:=fun b=>by
  split
  ·exact List.take_of_length_le (Nat.le_refl _)
  ·rfl
 simp only[e1,e2]
theorem trunc_keep{v:AV}{bs:List (List AV)}{tk:List Nat}{nb nt:Nat}(h:bs.length=nb)(h2:bs.all (·.all (in2 bs.length nt))=false):trunc nb nt v ⟨bs,tk,[]⟩=⟨bs,tk,[]⟩:=by
 unfold trunc
 have e1:∀(b:Bool),(if b=true then bs.take nb else bs)=bs:=fun b=>by
  split
  ·exact List.take_of_length_le (by omega)
  ·rfl
 simp only[e1,h2,Bool.and_false,Bool.false_eq_true,if_false]
section
variable(g:OfQ)(f:FuncId)(x0 x1:AV)(vs:List (List Amount))
def hMd(acc:List Amount):Heap:=⟨[[x0],[x1],[.func f [.ptr 0 0,.ptr 1 0]],[.sl .sh (vs.map encV)],[rowF encA acc]],tkR encA acc,[]⟩
def MadeR(p:List Amount×Int)(r:ARes×Heap):Prop:=(p.2=0∧r=(.ret (.tuple []),hMd f x0 x1 vs p.1))∨(p.2≠0∧r.1=.pan (stopV p.2))
theorem made_loop2(hof:∀s(B:List (List AV))(tk:List Nat),Does cfg (.call (.c (.func f [.ptr 0 0,.ptr 1 0])) [.c (.str s)]) ⟨[x0]::[x1]::B,tk,[]⟩ (.tuple [.int .i64 (g s).1,.int .i64 (g s).2]) ⟨[x0]::[x1]::B,tk,[]⟩)
 (ns:List (List UInt8))(hns:ns.length≤100000):∀(post:List (List UInt8))(i:Nat)(hd:ns.drop i=post)(acc:List Amount)(ha:acc.length≤i)(T:Env)
 (hT:Has T [(2,.ptr 4 0),(1,.ptr 2 0),(20,.sl .sh (ns.map .str)),(21,.int .i64 ns.length),(22,.int .i64 i)]),
 Goes cfg a72 k72_1 T (hMd f x0 x1 vs acc) (MadeR f x0 x1 vs (finV (madeF g post acc))):=by
 intro post
 induction post with
 |nil=>
  intro i hd acc ha T hT
  have hge:=drop_ge hd
  have hs:Pans cfg 61 [.int .i64 4] (stopV 4):=stop_pan (by decide)
  have e:madeF g [] acc=(acc,0):=rfl
  rw[e]
  by_cases h8:8<acc.length
  ·have e:finV (acc,0)=([],4):=by simp[finV,h8]
   rw[e]
   exact gG 90 _ hT (.no (dF ((↑i:Int)<(↑ns.length:Int)))<|.len (lM (skF acc) encA acc)<|.yes (dT ((8:Int)<(↑acc.length:Int)))<|.callP ([.int .i64 4]) ({boxes:=[[x0],[x1],[.func f [.ptr 0 0,.ptr 1 0]],[.sl .sh (vs.map encV)],[.sl (skF acc) (acc.map encA)]],toks:=tkR encA acc,loops:=[]:Heap}) hs ⟨rfl,rfl⟩ rfl (by exact .inr ⟨by decide,rfl⟩))
  ·have e:finV (acc,0)=(acc,0):=by simp[finV,h8]
   rw[e]
   exact gG 90 _ hT (.no (dF ((↑i:Int)<(↑ns.length:Int)))<|.len (lM (skF acc) encA acc)<|.no (dF ((8:Int)<(↑acc.length:Int)))<|.fin ((.ret (.tuple []),{boxes:=[[x0],[x1],[.func f [.ptr 0 0,.ptr 1 0]],[.sl .sh (vs.map encV)],[.sl (skF acc) (acc.map encA)]],toks:=tkR encA acc,loops:=[]:Heap})) (by exact .inl ⟨rfl,rfl⟩))
 |cons s post ih=>
  intro i hd acc ha T hT
  have hlt:=drop_lt hd
  have hnx:=drop_next hd
  have hx:idxA 1 (.sl .sh (ns.map .str)) (.int .i64 (i:Nat))=some (.ref [.str s]):=idx_row (f:=AV.str) hd rfl
  have hf:=hof s
  have e:madeF g (s::post) acc=if(g s).2=0 then madeF g post (if 0<(g s).1 then acc++[⟨s,(g s).1⟩]else acc)else([],(g s).2):=rfl
  rw[e]
  by_cases h0:(g s).2=0
  ·rw[if_pos h0]
   rw[h0]at hf
   by_cases hp:0<(g s).1
   ·rw[if_pos hp]
    have ih':=ih (i+1) hnx (acc++[⟨s,(g s).1⟩]) (by simp;omega)
    generalize(g s).1=n at hf hp ih'⊢
    have ap:∀bs ls,appendA 2 24 ⟨bs,tkR encA acc,ls⟩ (rowF encA acc) (.sl .full [.agg [.str s,.int .i64 n]])=some (rowF encA (acc++[⟨s,n⟩]),⟨bs,tkR encA (acc++[⟨s,n⟩]),ls⟩):=fun bs ls=>
     row_append_T encA (x:=⟨s,n⟩) (by simp;omega) lenA2 rfl rfl
    exact let ζ1:Heap:={boxes:=[[x0],[x1],[.func f [.ptr 0 0,.ptr 1 0]],[.sl .sh (vs.map encV)],[.sl (skF acc) (acc.map encA)]],toks:=tkR encA acc,loops:=[]:Heap};gG 120 _ hT (.yes (dT ((↑i:Int)<(↑ns.length:Int)))<|.idx hx<|.effY (show Does cfg (.call (.c (.func f [.ptr 0 0,.ptr 1 0])) [.c (.str s)]) ζ1 (.tuple [.int .i64 n,.int .i64 0]) ζ1 from hf _ _)<|.callI stop_ok<|.yes (dT ((0:Int)<n) (by exact hp))<|.append (show appendA (2:Nat) (24:Nat) ζ1 (.sl (skF acc) (acc.map encA)) (.sl .full [.agg [.str s,.int .i64 n]])=some ((rowF encA (acc++[{name:=s,n:=n:Amount}]),{boxes:=[[x0],[x1],[.func f [.ptr 0 0,.ptr 1 0]],[.sl .sh (vs.map encV)],[.sl (skF acc) (acc.map encA)]],toks:=tkR encA (acc++[{name:=s,n:=n:Amount}]),loops:=[]:Heap}))from ap _ _)<|.bin (iI i)<|.cutQ k72_1 [(2,.ptr 4 0),(1,.ptr 2 0),(20,.sl .sh (List.map .str ns)),(21,.int .i64 (↑ns.length)),(22,.int .i64 (↑(i+1)))] ({boxes:=[[x0],[x1],[.func f [.ptr 0 0,.ptr 1 0]],[.sl .sh (vs.map encV)],[.sl (skF (acc++[{name:=s,n:=n:Amount}])) (List.map encA (acc++[{name:=s,n:=n:Amount}]))]],toks:=tkR encA (acc++[{name:=s,n:=n:Amount}]),loops:=[]:Heap}) (fun T hT=>(ih' T hT)))
   ·rw[if_neg hp]
    have ih':=ih (i+1) hnx acc (by omega)
    generalize(g s).1=n at hf hp ih'⊢
    exact let ζ1:Heap:={boxes:=[[x0],[x1],[.func f [.ptr 0 0,.ptr 1 0]],[.sl .sh (vs.map encV)],[.sl (skF acc) (acc.map encA)]],toks:=tkR encA acc,loops:=[]:Heap};gG 120 _ hT (.yes (dT ((↑i:Int)<(↑ns.length:Int)))<|.idx hx<|.effY (show Does cfg (.call (.c (.func f [.ptr 0 0,.ptr 1 0])) [.c (.str s)]) ζ1 (.tuple [.int .i64 n,.int .i64 0]) ζ1 from hf _ _)<|.callI stop_ok<|.no (dF ((0:Int)<n) (by exact hp))<|.bin (iI i)<|.cutQ k72_1 [(2,.ptr 4 0),(1,.ptr 2 0),(20,.sl .sh (List.map .str ns)),(21,.int .i64 (↑ns.length)),(22,.int .i64 (↑(i+1)))] (ζ1) (fun T hT=>(ih' T hT)))
  ·rw[if_neg h0]
   have hst:=stop_pan h0
   have e:finV ([],(g s).2)=([],(g s).2):=by simp[finV,h0]
   rw[e]
   generalize(g s).2=e at hf h0 hst⊢
   exact let ζ1:Heap:={boxes:=[[x0],[x1],[.func f [.ptr 0 0,.ptr 1 0]],[.sl .sh (vs.map encV)],[.sl (skF acc) (acc.map encA)]],toks:=tkR encA acc,loops:=[]:Heap};gG 120 _ hT (.yes (dT ((↑i:Int)<(↑ns.length:Int)))<|.idx hx<|.effY (show Does cfg (.call (.c (.func f [.ptr 0 0,.ptr 1 0])) [.c (.str s)]) ζ1 (.tuple [.int .i64 (g s).fst,.int .i64 e]) ζ1 from hf _ _)<|.callP ([.int .i64 e]) (ζ1) hst ⟨rfl,rfl⟩ rfl (by exact .inr ⟨h0,rfl⟩))
theorem made_loop1(hof:∀s(B:List (List AV))(tk:List Nat),Does cfg (.call (.c (.func f [.ptr 0 0,.ptr 1 0])) [.c (.str s)]) ⟨[x0]::[x1]::B,tk,[]⟩ (.tuple [.int .i64 (g s).1,.int .i64 (g s).2]) ⟨[x0]::[x1]::B,tk,[]⟩)
 (hv:vs.length≤100):∀(post:List (List Amount))(i:Nat)(hd:vs.drop i=post)(hp:∀v∈vs.take i,ckV v=0)(T:Env)
 (hT:Has T [(0,.ptr 3 0),(1,.ptr 2 0),(2,.ptr 4 0),(9,.sl .sh (vs.map encV)),(10,.int .i64 vs.length),(11,.int .i64 i)]),
 Goes cfg a72 k72_0 T (hMd f x0 x1 vs []) (MadeR f x0 x1 vs (if firstE (post.map ckV)=0 then finV (madeF g (namesOf (allNames vs)) [])else([],firstE (post.map ckV)))):=by
 intro post
 induction post with
 |nil=>
  intro i hd hp T hT
  have hge:=drop_ge hd
  have hall:∀v∈vs,v.length≤100:=fun v hm=>by
   have:=hp v (by rw[List.take_of_length_le hge];exact hm)
   unfold ckV at this
   split at this
   ·omega
   ·cases this
  have hn:=names_any vs hv hall
  have hnl:(namesOf (allNames vs)).length≤10000:=by
   have h1:(namesOf (allNames vs)).length≤(allNames vs).length:=by
    unfold namesOf
    exact Nat.le_trans (uq_len _) (Nat.le_of_eq (isort_length _))
   have h2:∀(l:List (List Amount)),(∀v∈l,v.length≤100)→(allNames l).length≤100*l.length:=by
    intro l
    induction l with
    |nil=>intro _;simp[allNames]
    |cons v l ih=>
     intro h
     have:=ih fun w hw=>h w (by simp[hw])
     have h3:=h v (by simp)
     rw[allNames_cons,List.length_append,List.length_map,List.length_cons]
     omega
   have:=h2 vs hall
   omega
  have hn:=does_callF (xs:=[.sl .sh (vs.map encV)]) hn rfl rfl (hMd f x0 x1 vs [])
  have h2:=made_loop2 g f x0 x1 vs hof (namesOf (allNames vs)) (by omega) (namesOf (allNames vs)) 0 rfl [] (by simp)
  have e:(if firstE (([]:List (List Amount)).map ckV)=0 then finV (madeF g (namesOf (allNames vs)) [])else([],firstE (([]:List (List Amount)).map ckV)))=finV (madeF g (namesOf (allNames vs)) []):=rfl
  rw[e]
  generalize namesOf (allNames vs)=ns at hn h2 hnl⊢
  exact gG 90 _ hT (.no (dF ((↑i:Int)<(↑vs.length:Int)))<|.effY hn<|.len (lM .sh .str ns)<|.cutQ k72_1 [(2,.ptr 4 0),(1,.ptr 2 0),(20,.sl .sh (List.map .str ns)),(21,.int .i64 (↑ns.length)),(22,.int .i64 0)] ({boxes:=[[x0],[x1],[.func f [.ptr 0 0,.ptr 1 0]],[.sl .sh (vs.map encV)],[.sl .full []]],toks:=[],loops:=[]:Heap}) (fun T hT=>(h2 T hT)))
 |cons v post ih=>
  intro i hd hp T hT
  have hlt:=drop_lt hd
  have hnx:=drop_next hd
  have hx:idxA 1 (.sl .sh (vs.map encV)) (.int .i64 (i:Nat))=some (.ref [encV v]):=idx_row (f:=encV) hd rfl
  have hc:=ckV_any v
  by_cases h0:ckV v=0
  ·have e:firstE ((v::post).map ckV)=firstE (post.map ckV):=by simp[firstE,h0]
   rw[e]
   rw[h0]at hc
   have ih':=ih (i+1) hnx (fun w hw=>by
    rw[drop_take hd,List.mem_append]at hw
    rcases hw with hw|hw
    ·exact hp w hw
    ·rw[List.mem_singleton.1 hw];exact h0)
   exact gG 90 _ hT (.yes (dT ((↑i:Int)<(↑vs.length:Int)))<|.idx hx<|.callI hc<|.callI stop_ok<|.bin (iI i)<|.cutQ k72_0 [(0,.ptr 3 0),(1,.ptr 2 0),(2,.ptr 4 0),(9,.sl .sh (vs.map encV)),(10,.int .i64 (↑vs.length)),(11,.int .i64 (↑(i+1)))] ({boxes:=[[x0],[x1],[.func f [.ptr 0 0,.ptr 1 0]],[.sl .sh (vs.map encV)],[.sl .full []]],toks:=[],loops:=[]:Heap}) (fun T hT=>(ih' T hT)))
  ·have e:firstE ((v::post).map ckV)=ckV v:=by simp[firstE,h0]
   rw[e,if_neg h0]
   have hst:=stop_pan h0
   generalize ckV v=c at hc h0 hst⊢
   exact gG 90 _ hT (.yes (dT ((↑i:Int)<(↑vs.length:Int)))<|.idx hx<|.callI hc<|.callP ([.int .i64 c]) ({boxes:=[[x0],[x1],[.func f [.ptr 0 0,.ptr 1 0]],[.sl .sh (vs.map encV)],[.sl .full []]],toks:=[],loops:=[]:Heap}) hst ⟨rfl,rfl⟩ rfl (by exact .inr ⟨h0,rfl⟩))
theorem made_any(hof:∀s(B:List (List AV))(tk:List Nat),Does cfg (.call (.c (.func f [.ptr 0 0,.ptr 1 0])) [.c (.str s)]) ⟨[x0]::[x1]::B,tk,[]⟩ (.tuple [.int .i64 (g s).1,.int .i64 (g s).2]) ⟨[x0]::[x1]::B,tk,[]⟩)
 (hv:vs.length≤100)(hx:data0 x0=true∧data0 x1=true):∃H',Does cfg (.call (.c (.func 38 [])) [.c (.func f [.ptr 0 0,.ptr 1 0]),.c (.sl .sh (vs.map encV))]) ⟨[[x0],[x1]],[],[]⟩ (.tuple [.sl .sh ((madeV g vs).1.map encA),.int .i64 (madeV g vs).2]) H':=by
 have h1:=made_loop1 g f x0 x1 vs hof hv vs 0 rfl (by simp)
 have key:Goes cfg a72 [.c c72] (initEnv [.ptr 3 0,.ptr 2 0,.ptr 4 0]) (hMd f x0 x1 vs []) (MadeR f x0 x1 vs (madeV g vs)):=by
  exact gG 60 [] trivial (.len (lM .sh encV vs)<|.cutQ k72_0 [(0,.ptr 3 0),(1,.ptr 2 0),(2,.ptr 4 0),(9,.sl .sh (vs.map encV)),(10,.int .i64 (↑vs.length)),(11,.int .i64 0)] ({boxes:=[[x0],[x1],[.func f [.ptr 0 0,.ptr 1 0]],[.sl .sh (vs.map encV)],[.sl .full []]],toks:=[],loops:=[]:Heap}) (fun T hT=>(h1 T hT)))
 obtain⟨⟨a,H1⟩,hr,hR⟩:=key
 have hin:∀nb nt,in2 nb nt x0=true∧in2 nb nt x1=true:=fun nb nt=>⟨in2_data0 hx.1,in2_data0 hx.2⟩
 rcases hR with⟨he,hR⟩|⟨he,hR⟩
 ·simp only[Prod.mk.injEq]at hR
  obtain⟨rfl,rfl⟩:=hR
  have ht:lim cfg (.fn 56) [.func 72 [.ptr 3 0,.ptr 2 0,.ptr 4 0]] (hMd f x0 x1 vs [])=some (.ret (.int .i64 0),hMd f x0 x1 vs (madeV g vs).1):=by
   rw[lim_try rfl,l72,hr];rfl
  have hd:Does cfg (.call (.c (.func 56 [])) [.c (.func 72 [.ptr 3 0,.ptr 2 0,.ptr 4 0])]) (hMd f x0 x1 vs []) (.int .i64 0) (hMd f x0 x1 vs (madeV g vs).1):=by
   have hd:=does_callE (xs:=[.func 72 [.ptr 3 0,.ptr 2 0,.ptr 4 0]]) (caps:=[]) ht rfl rfl
   refine Eq.mp ?_ hd
   congr 1
   generalize(madeV g vs).1=l
   show trunc 5 0 (.int .i64 0) ⟨[[x0],[x1],[.func f [.ptr 0 0,.ptr 1 0]],[.sl .sh (vs.map encV)],[rowF encA l]],tkR encA l,[]⟩=_
   cases l with
   |nil=>exact trunc_len (by rfl)
   |cons y l=>
    rw[tk_cons]
    refine(trunc_keep (by rfl) ?_).trans ?_
    ·simp[rowF,skF,in2,in1,in0]
    ·rw[←tk_cons encA y l];rfl
  rw[he]
  generalize(madeV g vs).1=l at hd⊢
  have k2:Goes cfg a38 [.c c38] (initEnv [.func f [.ptr 0 0,.ptr 1 0],.sl .sh (vs.map encV)]) ⟨[[x0],[x1]],[],[]⟩ (fun r=>r.1=.ret (.tuple [rowF encA l,.int .i64 0])):=by
   exact gG 60 [] trivial (.effY hd<|.ff<|.fin ((.ret (.tuple [.sl (skF l) (l.map encA),.int .i64 0]),{boxes:=[[x0],[x1],[.func f [.ptr 0 0,.ptr 1 0]],[.sl .sh (vs.map encV)],[.sl (skF l) (l.map encA)]],toks:=tkR encA l,loops:=[]:Heap})) rfl)
  obtain⟨⟨a,H2⟩,h2,h3⟩:=k2
  simp only at h3
  subst h3
  have h4:lim cfg (.fn 38) ([.func f [.ptr 0 0,.ptr 1 0],.sl .sh (vs.map encV)]++[]) ⟨[[x0],[x1]],[],[]⟩=some (.ret (.tuple [rowF encA l,.int .i64 0]),H2):=by
   rw[List.append_nil,l38];exact h2
  have hd2:=does_callE h4 rfl rfl
  have es:shutA (.tuple [rowF encA l,.int .i64 0])=.tuple [.sl .sh (l.map encA),.int .i64 0]:=by cases l<;>rfl
  rw[es]at hd2
  exact⟨_,hd2⟩
 ·simp only at hR
  subst hR
  have ht:lim cfg (.fn 56) [.func 72 [.ptr 3 0,.ptr 2 0,.ptr 4 0]] (hMd f x0 x1 vs [])=some (.ret (.int .i64 (madeV g vs).2),H1):=by
   rw[lim_try rfl,l72,hr];rfl
  have hd:=does_callE (xs:=[.func 72 [.ptr 3 0,.ptr 2 0,.ptr 4 0]]) (caps:=[]) ht rfl rfl
  generalize trunc _ _ _ H1=H2 at hd
  have e0:(madeV g vs).1=[]:=by
   unfold madeV at he⊢
   split
   ·rename_i h;rw[if_pos h]at he
    unfold finV at he⊢
    split
    ·rename_i h2;rw[if_pos h2]at he
     split
     ·rfl
     ·rename_i h3;rw[if_neg h3]at he;exact absurd rfl he
    ·rfl
   ·rfl
  rw[e0]
  generalize(madeV g vs).2=c at hd he⊢
  have k2:Goes cfg a38 [.c c38] (initEnv [.func f [.ptr 0 0,.ptr 1 0],.sl .sh (vs.map encV)]) ⟨[[x0],[x1]],[],[]⟩ (fun r=>r.1=.ret (.tuple [.sl .full [],.int .i64 c])):=by
   exact gG 60 [] trivial (.effY hd<|.yes (show(c !=(0:Int))=true from(by simpa using he))<|.fin ((.ret (.tuple [.sl .full [],.int .i64 c]),H2)) rfl)
  obtain⟨⟨a,H3⟩,h2,h3⟩:=k2
  simp only at h3
  subst h3
  have h4:lim cfg (.fn 38) ([.func f [.ptr 0 0,.ptr 1 0],.sl .sh (vs.map encV)]++[]) ⟨[[x0],[x1]],[],[]⟩=some (.ret (.tuple [.sl .full [],.int .i64 c]),H3):=by
   rw[List.append_nil,l38];exact h2
  have hd2:=does_callE h4 rfl rfl
  exact⟨_,hd2⟩
end
theorem sub_of(a b:List Amount)(ha:a.length<9223372036854775807)(hb:b.length<9223372036854775807)(ra:∀s,inI (getQ a s))(rb:∀s,inI (getQ b s))(s:List UInt8)(B:List (List AV))(tk:List Nat):
 Does cfg (.call (.c (.func 45 [.ptr 0 0,.ptr 1 0])) [.c (.str s)]) ⟨[encV a]::[encV b]::B,tk,[]⟩ (.tuple [.int .i64 (subQ (getQ a s) (getQ b s)).1,.int .i64 (subQ (getQ a s) (getQ b s)).2]) ⟨[encV a]::[encV b]::B,tk,[]⟩:=by
 have g1:=getQ_any a s ha
 have g2:=getQ_any b s hb
 have g3:=qsub_any _ _ (ra s) (rb s)
 generalize getQ a s=p at g1 g3⊢
 generalize getQ b s=q at g2 g3⊢
 generalize subQ p q=z at g3⊢
 have key:Goes cfg a45 [.c c45] (initEnv [.str s,.ptr 0 0,.ptr 1 0]) ⟨[encV a]::[encV b]::B,tk,[]⟩ (fun r=>r=(.ret (.tuple [.int .i64 z.1,.int .i64 z.2]),⟨[encV a]::[encV b]::B,tk,[]⟩)):=by
  exact let ζ1:Heap:={boxes:=[.sl .sh (a.map encA)]::[.sl .sh (b.map encA)]::B,toks:=tk,loops:=[]:Heap};let ζ2:List AV:=[.int .i64 z.fst,.int .i64 z.snd];let ζ3:List AV:=[.sl .sh (a.map encA),.str s];let ζ4:List AV:=[.sl .sh (b.map encA),.str s];gG 60 [] trivial (.load (lB false 1 ζ1 0 0 (.sl .sh (a.map encA)) [.sl .sh (a.map encA)])<|.callK (ζ3) (.int .i64 p) g1<|.load (lB false 1 ζ1 1 0 (.sl .sh (b.map encA)) [.sl .sh (b.map encA)])<|.callK (ζ4) (.int .i64 q) g2<|.callI g3<|.fin ((.ret (.tuple ζ2),ζ1)) rfl)
 obtain⟨r,h,rfl⟩:=key
 have h2:lim cfg (.fn 45) ([.str s]++[.ptr 0 0,.ptr 1 0]) ⟨[encV a]::[encV b]::B,tk,[]⟩=some (.ret (.tuple [.int .i64 z.1,.int .i64 z.2]),⟨[encV a]::[encV b]::B,tk,[]⟩):=by
  rw[show([AV.str s]++[.ptr 0 0,.ptr 1 0])=[.str s,.ptr 0 0,.ptr 1 0]from rfl,l45];exact h
 have hd:=does_callE h2 rfl rfl
 rwa [trunc_self]at hd
def rgA(v:List Amount):Prop:=∀x∈v,inI x.n
theorem rg_get{v:List Amount}(h:rgA v)(s:List UInt8):inI (getQ v s):=by
 unfold getQ
 split
 ·rename_i x hx;exact h x (List.mem_of_find?_eq_some hx)
 ·unfold inI;omega
def addV(a b:List Amount):List Amount×Int:=madeV (fun s=>addQ (getQ a s) (getQ b s)) [a,b]
def subV(a b:List Amount):List Amount×Int:=madeV (fun s=>subQ (getQ a s) (getQ b s)) [a,b]
theorem subV_any(a b:List Amount)(ha:a.length<9223372036854775807)(hb:b.length<9223372036854775807)(ra:rgA a)(rb:rgA b):
 Gives cfg 20 [.sl .sh (a.map encA),.sl .sh (b.map encA)] (.tuple [.sl .sh ((subV a b).1.map encA),.int .i64 (subV a b).2]):=by
 refine Gives.run (l20 _ _) ?_
 obtain⟨H',h⟩:=made_any (fun s=>subQ (getQ a s) (getQ b s)) 45 (encV a) (encV b) [a,b] (sub_of a b ha hb (rg_get ra) (rg_get rb)) (by simp) ⟨rfl,rfl⟩
 have h2:Does cfg (.call (.c (.func 38 [])) [.c (.func 45 [.ptr 0 0,.ptr 1 0]),.c (.sl .sh [.sl .sh (a.map encA),.sl .sh (b.map encA)])]) ⟨[[.sl .sh (a.map encA)],[.sl .sh (b.map encA)]],[],[]⟩ (.tuple [.sl .sh ((subV a b).1.map encA),.int .i64 (subV a b).2]) H':=h
 have h3:Does cfg (.call (.c (.func 38 [])) [.c (.func 45 [.ptr 0 0,.ptr 1 0]),.c (.sl .full [.sl .sh (a.map encA),.sl .sh (b.map encA)])]) ⟨[[.sl .sh (a.map encA)],[.sl .sh (b.map encA)]],[],[]⟩ (.tuple [.sl .sh ((subV a b).1.map encA),.int .i64 (subV a b).2]) H':=fun T=>h2 T
 generalize subV a b=z at h3⊢
 exact let ζ1:List AV:=[.sl .sh (z.fst.map encA),.int .i64 z.snd];gG 60 [] trivial (.effY h3<|.fin ((.ret (.tuple ζ1),H')) rfl)
end Go.Aa.T
set_option linter.unusedVariables false
set_option linter.unusedSimpArgs false
set_option maxRecDepth 100000
namespace Go.Aa.T
open Go.Aa Go.Proofs
structure Pod where
 name:List UInt8
 owner:List UInt8
 prio:Int
 need:List Amount
 labels:List Pair
 sel:List Term
 tols:List Tol
 key:List UInt8
 most:Int
 node:List UInt8
 hold:Bool
structure PodOk(p:Pod):Prop where
 name:isName p.name=true
 owner:p.owner=[]∨isName p.owner=true
 prio: -1≤p.prio∧p.prio≤1000000
 hold:p.hold=decide (p.prio= -1)
 need:ckV p.need=0
 labels:ckS p.labels=0
 sel:ckM p.sel=0
 tols:ckL p.tols=0
 key:p.key=[]∨isName p.key=true
 most:0≤p.most∧p.most≤128∧(p.key=[]↔p.most=0)
 node:p.node=[]∨isName p.node=true
end Go.Aa.T
set_option linter.unusedVariables false
set_option linter.unusedSimpArgs false
set_option maxRecDepth 100000
namespace Go.Aa.T
open Go.Aa Go.Proofs
structure VOk(v:List Amount):Prop where
 len:v.length≤8
 name:∀x∈v,isName x.name=true
 pos:∀x∈v,0<x.n
 rise:Rise (nms v)
theorem ckVl_ok{s:List Amount}:∀{post:List Amount}{i:Nat},ckVl s i post=0→s.drop i=post→(∀x∈post,isName x.name=true∧0<x.n)∧Rise (nms post)∧∀j p,i=j+1→s[j]?=some p→Rise (p.name::nms post)
 |[],i,h,hd=>⟨by simp,by simp[Rise],fun j p _ _=>by simp[Rise]⟩
 |x::post,i,h,hd=>by
  unfold ckVl at h
  split at h
  ·rename_i hn
   split at h
   ·cases h
   ·rename_i hp
    split at h
    ·cases h
    ·rename_i ho
     obtain⟨h1,h2,h3⟩:=ckVl_ok h (drop_next hd)
     have h4:=h3 i x rfl (drop_at hd)
     refine⟨fun y hy=> ?_,h4,fun j p hj hp'=> ?_⟩
     ·rcases List.mem_cons.1 hy with rfl|hy
      ·exact⟨hn,by omega⟩
      ·exact h1 y hy
     ·subst hj
      simp only[ordV,hp',Bool.not_eq_true]at ho
      have h5:=bl_not ho
      refine List.Pairwise.cons (fun z hz=> ?_) h4
      rcases List.mem_cons.1 hz with rfl|hz
      ·exact h5
      ·exact bl_trans h5 (List.rel_of_pairwise_cons h4 hz)
  ·cases h
theorem vOk{v:List Amount}(h:ckV v=0):VOk v:=by
 unfold ckV at h
 split at h
 ·rename_i hl
  obtain⟨h1,h2,-⟩:=ckVl_ok h rfl
  exact⟨hl,fun x hx=>(h1 x hx).1,fun x hx=>(h1 x hx).2,h2⟩
 ·cases h
theorem ckVl_of{s:List Amount}:∀{post:List Amount}{i:Nat},s.drop i=post→(∀x∈s,isName x.name=true)→(∀x∈s,0<x.n)→Rise (nms s)→ckVl s i post=0
 |[],i,hd,_,_,_=>rfl
 |x::post,i,hd,h1,h2,h3=>by
  have hx:=drop_mem hd
  have ih:=ckVl_of (drop_next hd) h1 h2 h3
  have hp:=h2 x hx
  have ho:ordV s i x=false:=by
   cases i with
   |zero=>rfl
   |succ j=>
    have hlt:=drop_lt hd
    have hj:s[j]?=some (s[j]'(by omega)):=List.getElem?_eq_getElem _
    simp only[ordV,hj]
    have h4:=List.pairwise_iff_getElem.1 h3 j (j+1) (by simp;omega) (by simp;omega) (by omega)
    simp only[List.getElem_map]at h4
    have e:s[j+1]=x:=by
     have:=drop_at hd
     rw[List.getElem?_eq_getElem hlt]at this
     exact Option.some.inj this
    rw[e]at h4
    exact bl_asym h4
  unfold ckVl
  rw[if_pos (h1 x hx),if_neg (by omega),ho,if_neg (by simp)]
  exact ih
theorem ckV_of{v:List Amount}(h:VOk v):ckV v=0:=by
 unfold ckV
 rw[if_pos h.len]
 exact ckVl_of rfl h.name h.pos h.rise
theorem getQ_none{v:List Amount}{s:List UInt8}(h:s∉nms v):getQ v s=0:=by
 unfold getQ
 have:v.find? (fun x=>x.name==s)=none:=by
  rw[List.find?_eq_none]
  intro x hx e
  exact h (List.mem_map.2 ⟨x,hx,by simpa using e⟩)
 rw[this]
theorem getQ_some{v:List Amount}{s:List UInt8}(h:s∈nms v):∃x∈v,x.name=s∧getQ v s=x.n:=by
 unfold getQ
 cases hf:v.find? (fun x=>x.name==s)with
 |none=>
  obtain⟨x,hx,rfl⟩:=List.mem_map.1 h
  have:=List.find?_eq_none.1 hf x hx
  simp at this
 |some x=>exact⟨x,List.mem_of_find?_eq_some hf,by simpa using List.find?_some hf,rfl⟩
def kq:Bool→SK
 |true=>.sh
 |false=>.full
instance(c:Bool)(l:List AV):Shut (.sl (kq c) l) (.sl .sh l):=⟨by cases c<;>exact⟨rfl,rfl⟩⟩
def resV(c:Bool)(p:List Amount×Int):AV:=.tuple [.sl (kq c) (p.1.map encA),.int .i64 p.2]
instance(c:Bool)(p:List Amount×Int):Res (resV c p) (.tuple [.sl .sh (p.1.map encA),.int .i64 p.2]):=⟨by
 cases c<;>exact⟨rfl,rfl⟩⟩
def resW(c:Bool)(l:List Amount)(e:Int):AV:=.tuple [.sl (kq c) (l.map encA),.int .i64 e]
instance(c:Bool)(l:List Amount)(e:Int):Res (resW c l e) (.tuple [.sl .sh (l.map encA),.int .i64 e]):=⟨by
 cases c<;>exact⟨rfl,rfl⟩⟩
instance(l:List (List UInt8)):Shut (rowT l) (.sl .sh (l.map .str)):=inferInstanceAs(Shut (rowS Heap.nil (l.map .str)) _)
end Go.Aa.T
set_option linter.unusedVariables false
set_option linter.unusedSimpArgs false
set_option maxRecDepth 100000
namespace Go.Aa.T
open Go.Aa Go.Proofs
structure POk(v:List Amount):Prop where
 name:∀x∈v,isName x.name=true
 pos:∀x∈v,0<x.n
 rise:Rise (nms v)
theorem VOk.p{v:List Amount}(h:VOk v):POk v:=⟨h.name,h.pos,h.rise⟩
theorem POk.v{v:List Amount}(h:POk v)(hl:v.length≤8):VOk v:=⟨hl,h.name,h.pos,h.rise⟩
theorem rise_len{l m:List (List UInt8)}(hl:Rise l)(hm:Rise m)(h:∀x∈l,x∈m):l.length≤m.length:=by
 have e:l=m.filter fun x=>decide (x∈l):=rise_ext hl (hm.filter _) fun x=>by
  simp only[List.mem_filter,decide_eq_true_eq]
  exact⟨fun hx=>⟨h x hx,hx⟩,fun hx=>hx.2⟩
 rw[e];exact List.length_filter_le _ _
theorem pok_pos{v:List Amount}(h:POk v){s:List UInt8}:s∈nms v↔0<getQ v s:=by
 constructor
 ·intro hs
  obtain⟨x,hx,-,e⟩:=getQ_some hs
  rw[e];exact h.pos x hx
 ·intro hs
  by_cases hm:s∈nms v
  ·exact hm
  ·rw[getQ_none hm]at hs;omega
theorem pok_nn{v:List Amount}(h:POk v)(s:List UInt8):0≤getQ v s:=by
 by_cases hm:s∈nms v
 ·have:=(pok_pos h).1 hm;omega
 ·rw[getQ_none hm];omega
theorem getQ_mem:∀{v:List Amount},Rise (nms v)→∀x∈v,getQ v x.name=x.n
 |[],_,x,hx=>by cases hx
 |y::v,h,x,hx=>by
  rw[getQ_cons]
  rcases List.mem_cons.1 hx with rfl|hx
  ·rw[if_pos rfl]
  ·rw[if_neg,getQ_mem (List.Pairwise.of_cons h) x hx]
   intro e
   have:=List.rel_of_pairwise_cons h (List.mem_map.2 ⟨x,hx,rfl⟩)
   rw[e,bl_irrefl]at this
   cases this
theorem self_map{v:List Amount}(h:POk v):v=(nms v).map fun s=>⟨s,getQ v s⟩:=by
 rw[List.map_map]
 conv=>lhs;rw[←List.map_id v]
 exact List.map_congr_left fun x hx=>by simp[getQ_mem h.rise x hx]
theorem pok_ext{a b:List Amount}(ha:POk a)(hb:POk b)(h:∀s,getQ a s=getQ b s):a=b:=by
 have e:nms a=nms b:=rise_ext ha.rise hb.rise fun s=>by rw[pok_pos ha,pok_pos hb,h]
 rw[self_map ha,self_map hb,e]
 exact List.map_congr_left fun s _=>by rw[h]
def mk1(g:OfQ)(l:List (List UInt8)):List Amount:=(l.filter fun s=>decide (0<(g s).1)).map fun s=>⟨s,(g s).1⟩
theorem madeF_ok{g:OfQ}:∀{l:List (List UInt8)}(acc:List Amount),(∀s∈l,(g s).2=0)→madeF g l acc=(acc++mk1 g l,0)
 |[],acc,_=>by simp[madeF,mk1]
 |s::l,acc,h=>by
  unfold madeF
  rw[if_pos (h s (by simp)),madeF_ok _ fun t ht=>h t (by simp[ht])]
  by_cases hp:0<(g s).1<;>simp[mk1,hp]
theorem madeF_zero{g:OfQ}:∀{l:List (List UInt8)}{acc:List Amount},(madeF g l acc).2=0→∀s∈l,(g s).2=0
 |[],acc,_,s,hs=>by cases hs
 |t::l,acc,h,s,hs=>by
  unfold madeF at h
  split at h
  ·rename_i h0
   rcases List.mem_cons.1 hs with rfl|hs
   ·exact h0
   ·exact madeF_zero h s hs
  ·rename_i h0;exact absurd h h0
theorem nms_mk1(g:OfQ)(l:List (List UInt8)):nms (mk1 g l)=l.filter fun s=>decide (0<(g s).1):=by
 simp only[nms,mk1,List.map_map]
 conv=>rhs;rw[←List.map_id (l.filter _)]
 rfl
theorem mk1_ok{g:OfQ}{l:List (List UInt8)}(hr:Rise l)(hn:∀s∈l,isName s=true):POk (mk1 g l):=by
 refine⟨fun x hx=> ?_,fun x hx=> ?_,?_⟩
 ·obtain⟨s,hs,rfl⟩:=List.mem_map.1 hx
  exact hn s (List.mem_filter.1 hs).1
 ·obtain⟨s,hs,rfl⟩:=List.mem_map.1 hx
  simpa using(List.mem_filter.1 hs).2
 ·rw[nms_mk1];exact hr.filter _
theorem mk1_get{g:OfQ}{l:List (List UInt8)}(hr:Rise l)(hn:∀s∈l,isName s=true)(s:List UInt8)(h0:0≤(g s).1)(hx:s∉l→(g s).1=0):getQ (mk1 g l) s=(g s).1:=by
 by_cases hs:s∈nms (mk1 g l)
 ·obtain⟨x,hx,e1,e2⟩:=getQ_some hs
  obtain⟨t,ht,rfl⟩:=List.mem_map.1 hx
  rw[e2];simp only at e1⊢;rw[e1]
 ·rw[getQ_none hs]
  rw[nms_mk1]at hs
  by_cases hl:s∈l
  ·have:¬0<(g s).1:=fun h=>hs (List.mem_filter.2 ⟨hl,by simpa using h⟩)
   omega
  ·exact(hx hl).symm
theorem fin_ok{l:List Amount}(h:l.length≤8):finV (l,0)=(l,0):=by
 unfold finV;rw[if_pos rfl,if_neg (by simp only;omega)]
theorem made_two{g:OfQ}{a b:List Amount}(oa:VOk a)(ob:VOk b):madeV g [a,b]=finV (madeF g (namesOf (nms a++nms b)) []):=by
 have e:allNames [a,b]=nms a++nms b:=by simp[allNames]
 unfold madeV
 rw[if_pos (by simp[firstE,ckV_of oa,ckV_of ob]),e]
theorem two_name{a b:List Amount}(oa:VOk a)(ob:VOk b):∀s∈namesOf (nms a++nms b),isName s=true:=fun s hs=>by
 rcases List.mem_append.1 (namesOf_mem.1 hs)with h|h
 ·obtain⟨x,hx,rfl⟩:=List.mem_map.1 h;exact oa.name x hx
 ·obtain⟨x,hx,rfl⟩:=List.mem_map.1 h;exact ob.name x hx
theorem addQ_nn{a b:Int}(ha:0≤a)(hb:0≤b):addQ a b=toldQ (a+b):=by
 unfold addQ bothE;rw[if_neg (show¬a<0 by omega),if_neg (show¬b<0 by omega),if_neg (by simp)]
theorem told_ok{n:Int}(h:n≤9223372036854775807):toldQ n=(n,0):=by unfold toldQ;rw[if_neg (by omega)]
theorem told_zero{n:Int}(h:(toldQ n).2=0):n≤9223372036854775807:=by
 unfold toldQ at h;split at h
 ·cases h
 ·omega
theorem add_nms{a b:List Amount}(oa:VOk a)(ob:VOk b)(hs:∀s,getQ a s+getQ b s≤9223372036854775807):
 (namesOf (nms a++nms b)).filter (fun s=>decide (0<(addQ (getQ a s) (getQ b s)).1))=namesOf (nms a++nms b):=by
 refine List.filter_eq_self.2 fun s hx=> ?_
 have pa:=pok_nn oa.p s
 have pb:=pok_nn ob.p s
 rw[addQ_nn pa pb,told_ok (hs s)]
 have:0<getQ a s+getQ b s:=by
  rcases List.mem_append.1 (namesOf_mem.1 hx)with h|h
  ·have:=(pok_pos oa.p).1 h;omega
  ·have:=(pok_pos ob.p).1 h;omega
 simpa using this
theorem add_zero{a b:List Amount}(oa:VOk a)(ob:VOk b)(h:(addV a b).2=0):(∀s,getQ a s+getQ b s≤9223372036854775807)∧(namesOf (nms a++nms b)).length≤8:=by
 have pa:=pok_nn oa.p
 have pb:=pok_nn ob.p
 unfold addV at h
 rw[made_two oa ob]at h
 have h0:(madeF (fun s=>addQ (getQ a s) (getQ b s)) (namesOf (nms a++nms b)) []).2=0:=by
  unfold finV at h;split at h
  ·rename_i h0;exact h0
  ·exact h
 have h1:=madeF_zero h0
 have hs:∀s,getQ a s+getQ b s≤9223372036854775807:=fun s=>by
  by_cases hm:s∈nms a++nms b
  ·have:=h1 s (namesOf_mem.2 hm)
   simp only[addQ_nn (pa s) (pb s)]at this
   exact told_zero this
  ·rw[getQ_none fun h=>hm (List.mem_append.2 (.inl h)),getQ_none fun h=>hm (List.mem_append.2 (.inr h))];omega
 refine⟨hs,?_⟩
 rw[madeF_ok _ h1,List.nil_append]at h
 have e2:=nms_mk1 (fun s=>addQ (getQ a s) (getQ b s)) (namesOf (nms a++nms b))
 rw[add_nms oa ob hs]at e2
 rw[←e2,List.length_map]
 unfold finV at h
 rw[if_pos rfl]at h
 split at h
 ·cases h
 ·rename_i h3;exact Nat.le_of_not_lt h3
theorem fits_get{a b:List Amount}(oa:POk a)(ob:POk b):fitsV a b=true↔∀s,getQ a s≤getQ b s:=by
 unfold fitsV
 simp only[List.all_eq_true,decide_eq_true_eq]
 constructor
 ·intro h s
  by_cases hm:s∈nms a
  ·obtain⟨x,hx,rfl,e⟩:=getQ_some hm
   rw[e];exact h x hx
  ·rw[getQ_none hm];exact pok_nn ob s
 ·intro h x hx
  rw[←getQ_mem oa.rise x hx];exact h _
theorem sub_ok{a b:List Amount}(oa:VOk a)(ob:VOk b)(h:∀s,getQ b s≤getQ a s):
 ∃r,subV a b=(r,0)∧VOk r∧(∀s,getQ r s=getQ a s-getQ b s):=by
 have pa:=pok_nn oa.p
 have pb:=pok_nn ob.p
 have hr:=namesOf_rise (nms a++nms b)
 have hn:=two_name oa ob
 have hg:∀s,subQ (getQ a s) (getQ b s)=(getQ a s-getQ b s,0):=fun s=>by
  have:=pa s;have:=pb s;have:=h s
  unfold subQ bothE;rw[if_neg (show¬getQ a s<0 by omega),if_neg (show¬getQ b s<0 by omega),if_neg (by simp),if_neg (by omega)]
 have hp:=mk1_ok (g:=fun s=>subQ (getQ a s) (getQ b s)) hr hn
 have e2:=nms_mk1 (fun s=>subQ (getQ a s) (getQ b s)) (namesOf (nms a++nms b))
 have e3:(mk1 (fun s=>subQ (getQ a s) (getQ b s)) (namesOf (nms a++nms b))).length≤8:=by
  have hl:(nms (mk1 (fun s=>subQ (getQ a s) (getQ b s)) (namesOf (nms a++nms b)))).length≤(nms a).length:=rise_len hp.rise oa.rise fun x hx=>by
   rw[e2]at hx
   have:=(List.mem_filter.1 hx).2
   simp only[hg,decide_eq_true_eq]at this
   have:=pb x
   exact(pok_pos oa.p).2 (by omega)
  have:=oa.len
  simp only[List.length_map]at hl;omega
 refine⟨_,?_,hp.v e3,fun s=> ?_⟩
 ·unfold subV
  rw[made_two oa ob,madeF_ok _ fun s _=>by simp only[hg],List.nil_append,fin_ok e3]
 ·rw[mk1_get hr hn s (by simp only[hg];have:=h s;omega),hg]
  intro hx
  simp only[hg]
  rw[getQ_none fun h=>hx (namesOf_mem.2 (List.mem_append.2 (.inl h))),getQ_none fun h=>hx (namesOf_mem.2 (List.mem_append.2 (.inr h)))]
  rfl
end Go.Aa.T
set_option linter.unusedVariables false
set_option linter.unusedSimpArgs false
set_option maxRecDepth 100000
namespace Go.Aa.T
open Go.Aa Go.Proofs
theorem subQ_le{a b:Int}(ha:0≤a)(hb:0≤b)(h:(subQ a b).2=0):b≤a:=by
 unfold subQ bothE at h
 rw[if_neg (show¬a<0 by omega),if_neg (show¬b<0 by omega),if_neg (by simp)]at h
 split at h
 ·cases h
 ·omega
theorem sub_zero{a b:List Amount}(oa:VOk a)(ob:VOk b)(h:(subV a b).2=0):∀s,getQ b s≤getQ a s:=by
 have pa:=pok_nn oa.p
 have pb:=pok_nn ob.p
 unfold subV at h
 rw[made_two oa ob]at h
 have h0:(madeF (fun s=>subQ (getQ a s) (getQ b s)) (namesOf (nms a++nms b)) []).2=0:=by
  unfold finV at h;split at h
  ·rename_i h0;exact h0
  ·exact h
 have h1:=madeF_zero h0
 intro s
 by_cases hm:s∈nms a++nms b
 ·have h2:=h1 s (namesOf_mem.2 hm)
  exact subQ_le (pa s) (pb s) h2
 ·rw[getQ_none fun h=>hm (List.mem_append.2 (.inl h)),getQ_none fun h=>hm (List.mem_append.2 (.inr h))];omega
theorem sub_fits{a b:List Amount}(oa:VOk a)(ob:VOk b):((subV b a).2=0)↔fitsV a b=true:=by
 rw[fits_get oa.p ob.p]
 exact⟨sub_zero ob oa,fun h=>by obtain⟨r,e,-⟩:=sub_ok ob oa h;rw[e]⟩
theorem fits_self{a:List Amount}(oa:VOk a):fitsV a a=true:=(fits_get oa.p oa.p).2 fun s=>Int.le_refl _
theorem fits_nothing{a:List Amount}(oa:VOk a):fitsV a []=true↔a=[]:=by
 constructor
 ·intro h
  cases a with
  |nil=>rfl
  |cons x a=>
   have h1:=oa.pos x (by simp)
   simp only[fitsV,List.all_cons,Bool.and_eq_true,decide_eq_true_eq]at h
   have h2:x.n≤0:=h.1
   omega
 ·rintro rfl;rfl
theorem fits_anti{a b:List Amount}(oa:VOk a)(ob:VOk b)(h1:fitsV a b=true)(h2:fitsV b a=true):a=b:=
 pok_ext oa.p ob.p fun s=>Int.le_antisymm ((fits_get oa.p ob.p).1 h1 s) ((fits_get ob.p oa.p).1 h2 s)
theorem fits_tr{a b c:List Amount}(oa:VOk a)(ob:VOk b)(oc:VOk c)(h1:fitsV a b=true)(h2:fitsV b c=true):fitsV a c=true:=
 (fits_get oa.p oc.p).2 fun z=>by have:=(fits_get oa.p ob.p).1 h1 z;have:=(fits_get ob.p oc.p).1 h2 z;omega
end Go.Aa.T
set_option linter.unusedVariables false
set_option linter.unusedSimpArgs false
set_option maxRecDepth 100000
namespace Go.Aa.T
open Go.Aa Go.Proofs
theorem known8':Gives cfg 8 [] (.bool true):=by
 obtain⟨H,h⟩:=known_ret8
 exact Gives.of h
theorem resFits(a b c:List Amount)(ra:rgA a)(rb:rgA b)(rc:rgA c):Gives cfg 7 [.sl .sh (a.map encA),.sl .sh (b.map encA),.sl .sh (c.map encA)] (.bool true):=by
 refine Gives.run (l7 _ _) ?_
 have f1:=fewA_any a
 have f2:=fewA_any b
 have f3:=fewA_any c
 cases h1:fewA a with
 |false=>
  rw[h1]at f1
  exact gG 120 [] trivial (.callI known8'<|.ff<|.callI f1<|.tt<|.tt<|.tt<|.tt<|.tt<|.tt<|.fin ((.ret (.bool true),{boxes:=[],toks:=[],loops:=[]:Heap})) rfl)
 |true=>
  rw[h1]at f1
  cases h2:fewA b with
  |false=>
   rw[h2]at f2
   exact gG 120 [] trivial (.callI known8'<|.ff<|.callI f1<|.ff<|.callI f2<|.tt<|.tt<|.tt<|.tt<|.tt<|.fin ((.ret (.bool true),{boxes:=[],toks:=[],loops:=[]:Heap})) rfl)
  |true=>
   rw[h2]at f2
   cases h3:fewA c with
   |false=>
    rw[h3]at f3
    exact gG 120 [] trivial (.callI known8'<|.ff<|.callI f1<|.ff<|.callI f2<|.ff<|.callI f3<|.tt<|.tt<|.tt<|.tt<|.fin ((.ret (.bool true),{boxes:=[],toks:=[],loops:=[]:Heap})) rfl)
   |true=>
    rw[h3]at f3
    have la:=fewA_len h1
    have lb:=fewA_len h2
    have lc:=fewA_len h3
    have o1:=ofA_any a la
    have o2:=ofA_any b lb
    have o3:=ofA_any c lc
    have k1:=ckV_ref a
    have k2:=ckV_ref b
    have k3:=ckV_ref c
    by_cases e1:ckV a=0
    ·rw[e1]at k1
     by_cases e2:ckV b=0
     ·rw[e2]at k2
      by_cases e3:ckV c=0
      ·rw[e3]at k3
       have oa:=vOk e1
       have ob:=vOk e2
       have oc:=vOk e3
       have t1:=fits_any a a (by omega) (by omega)
       rw[fits_self oa]at t1
       have t2:Gives cfg 26 [.sl .sh [],.sl .sh (a.map encA)] (.bool true):=fits_any [] a (by simp) (by omega)
       have t3:Gives cfg 26 [.sl .sh (a.map encA),.sl .sh []] (.bool (fitsV a [])):=fits_any a [] (by omega) (by simp)
       have t4:=fits_any a b (by omega) (by omega)
       have t5:=fits_any b c (by omega) (by omega)
       have t6:=fits_any a c (by omega) (by omega)
       have t7:=fits_any b a (by omega) (by omega)
       have sb:=subV_any b a (by omega) (by omega) rb ra
       have hsf:=sub_fits oa ob
       have sv:=sameV a b (by omega)
       have h0:fitsV a []=((a.length:Int)==0):=by
        cases hq:fitsV a []with
        |true=>rw[(fits_nothing oa).1 hq];rfl
        |false=>
         have:¬a=[]:=fun h=>by rw[h]at hq;cases hq
         have:a.length≠0:=fun h=>this (List.length_eq_zero_iff.1 h)
         have:¬(a.length:Int)=0:=by omega
         simpa using this
       have htr:=fits_tr oa ob oc
       have han:=fits_anti oa ob
       rw[h0]at t3
       generalize subV b a=u at sb hsf
       obtain⟨u,e⟩:=u
       have hsf:e=0↔fitsV a b=true:=hsf
       have sb:Gives cfg 20 [.sl .sh (b.map encA),.sl .sh (a.map encA)] (.tuple [.sl .sh (u.map encA),.int .i64 e]):=sb
       cases x1:fitsV a b with
       |false=>
        rw[x1]at t4 hsf
        have he:¬e=0:=fun h=>by cases hsf.1 h
        exact let ζ1:List AV:=[.sl .sh (a.map encA),.sl .sh (b.map encA)];let ζ2:List AV:=[.sl .sh (a.map encA),.sl .sh (a.map encA)];let ζ3:List AV:=[.sl .sh (b.map encA),.sl .sh (a.map encA)];let ζ4:List AV:=[.sl .sh (u.map encA),.int .i64 e];gG 300 [] trivial (.callI known8'<|.ff<|.callI f1<|.ff<|.callI f2<|.ff<|.callI f3<|.ff<|.callG ([.sl .sh (a.map encA)]) (.sl .sh (a.map encA)) o1 ⟨rfl,rfl⟩ Res.p<|.callI k1<|.ff<|.callG ([.sl .sh (b.map encA)]) (.sl .sh (b.map encA)) o2 ⟨rfl,rfl⟩ Res.p<|.callI k2<|.ff<|.callG ([.sl .sh (c.map encA)]) (.sl .sh (c.map encA)) o3 ⟨rfl,rfl⟩ Res.p<|.callI k3<|.ff<|.callK (ζ2) (.bool true) t1<|.ff<|.callK ([.sl .full [],.sl .sh (a.map encA)]) (.bool true) t2<|.ff<|.callK ([.sl .sh (a.map encA),.sl .full []]) (.bool ((↑a.length:Int)==(0:Int))) t3<|.len (lM .sh encA a)<|.no (show(if true=true then !((↑a.length:Int)==(0:Int))==((↑a.length:Int)==(0:Int))else((↑a.length:Int)==(0:Int))==((↑a.length:Int)==(0:Int)))=false from Bool.eq_false_iff.2 (by simp+zetaDelta))<|.callK (ζ3) (.tuple ζ4) sb<|.callK (ζ1) (.bool false) t4<|.tt<|.tt<|.tt<|.callK (ζ1) (.bool false) t4<|.yes (show(if false=true then !(e==(0:Int))==false else(e==(0:Int))==false)=true from(by simpa using he))<|.callK (ζ1) (.bool false) t4<|.tt<|.tt<|.fin ((.ret (.bool true),{boxes:=[],toks:=[],loops:=[]:Heap})) rfl)
       |true=>
        rw[x1]at t4 hsf
        have he:e=0:=hsf.2 rfl
        subst he
        cases x2:fitsV b a with
        |false=>
         rw[x2]at t7
         cases x3:fitsV b c with
         |false=>
          rw[x3]at t5
          exact let ζ1:List AV:=[.sl .sh (a.map encA),.sl .sh (b.map encA)];let ζ2:List AV:=[.sl .sh (b.map encA),.sl .sh (a.map encA)];let ζ3:List AV:=[.sl .sh (a.map encA),.sl .sh (a.map encA)];let ζ4:List AV:=[.sl .sh (b.map encA),.sl .sh (c.map encA)];let ζ5:List AV:=[.sl .sh (u.map encA),.int .i64 0];gG 300 [] trivial (.callI known8'<|.ff<|.callI f1<|.ff<|.callI f2<|.ff<|.callI f3<|.ff<|.callG ([.sl .sh (a.map encA)]) (.sl .sh (a.map encA)) o1 ⟨rfl,rfl⟩ Res.p<|.callI k1<|.ff<|.callG ([.sl .sh (b.map encA)]) (.sl .sh (b.map encA)) o2 ⟨rfl,rfl⟩ Res.p<|.callI k2<|.ff<|.callG ([.sl .sh (c.map encA)]) (.sl .sh (c.map encA)) o3 ⟨rfl,rfl⟩ Res.p<|.callI k3<|.ff<|.callK (ζ3) (.bool true) t1<|.ff<|.callK ([.sl .full [],.sl .sh (a.map encA)]) (.bool true) t2<|.ff<|.callK ([.sl .sh (a.map encA),.sl .full []]) (.bool ((↑a.length:Int)==(0:Int))) t3<|.len (lM .sh encA a)<|.no (show(if true=true then !((↑a.length:Int)==(0:Int))==((↑a.length:Int)==(0:Int))else((↑a.length:Int)==(0:Int))==((↑a.length:Int)==(0:Int)))=false from Bool.eq_false_iff.2 (by simp+zetaDelta))<|.callK (ζ2) (.tuple ζ5) sb<|.callK (ζ1) (.bool true) t4<|.ff<|.callK (ζ4) (.bool false) t5<|.tt<|.tt<|.callK (ζ1) (.bool true) t4<|.tt<|.callK (ζ1) (.bool true) t4<|.ff<|.callK (ζ2) (.bool false) t7<|.tt<|.fin ((.ret (.bool true),{boxes:=[],toks:=[],loops:=[]:Heap})) rfl)
         |true=>
          rw[x3]at t5
          rw[htr x1 x3]at t6
          exact let ζ1:List AV:=[.sl .sh (a.map encA),.sl .sh (b.map encA)];let ζ2:List AV:=[.sl .sh (b.map encA),.sl .sh (a.map encA)];let ζ3:List AV:=[.sl .sh (a.map encA),.sl .sh (a.map encA)];let ζ4:List AV:=[.sl .sh (b.map encA),.sl .sh (c.map encA)];let ζ5:List AV:=[.sl .sh (a.map encA),.sl .sh (c.map encA)];let ζ6:List AV:=[.sl .sh (u.map encA),.int .i64 0];gG 300 [] trivial (.callI known8'<|.ff<|.callI f1<|.ff<|.callI f2<|.ff<|.callI f3<|.ff<|.callG ([.sl .sh (a.map encA)]) (.sl .sh (a.map encA)) o1 ⟨rfl,rfl⟩ Res.p<|.callI k1<|.ff<|.callG ([.sl .sh (b.map encA)]) (.sl .sh (b.map encA)) o2 ⟨rfl,rfl⟩ Res.p<|.callI k2<|.ff<|.callG ([.sl .sh (c.map encA)]) (.sl .sh (c.map encA)) o3 ⟨rfl,rfl⟩ Res.p<|.callI k3<|.ff<|.callK (ζ3) (.bool true) t1<|.ff<|.callK ([.sl .full [],.sl .sh (a.map encA)]) (.bool true) t2<|.ff<|.callK ([.sl .sh (a.map encA),.sl .full []]) (.bool ((↑a.length:Int)==(0:Int))) t3<|.len (lM .sh encA a)<|.no (show(if true=true then !((↑a.length:Int)==(0:Int))==((↑a.length:Int)==(0:Int))else((↑a.length:Int)==(0:Int))==((↑a.length:Int)==(0:Int)))=false from Bool.eq_false_iff.2 (by simp+zetaDelta))<|.callK (ζ2) (.tuple ζ6) sb<|.callK (ζ1) (.bool true) t4<|.ff<|.callK (ζ4) (.bool true) t5<|.ff<|.callK (ζ5) (.bool true) t6<|.tt<|.callK (ζ1) (.bool true) t4<|.tt<|.callK (ζ1) (.bool true) t4<|.ff<|.callK (ζ2) (.bool false) t7<|.tt<|.fin ((.ret (.bool true),{boxes:=[],toks:=[],loops:=[]:Heap})) rfl)
        |true=>
         rw[x2]at t7
         rw[(same2_iff eqA_iff).2 (han x1 x2)]at sv
         cases x3:fitsV b c with
         |false=>
          rw[x3]at t5
          exact let ζ1:List AV:=[.sl .sh (a.map encA),.sl .sh (b.map encA)];let ζ2:List AV:=[.sl .sh (b.map encA),.sl .sh (a.map encA)];let ζ3:List AV:=[.sl .sh (a.map encA),.sl .sh (a.map encA)];let ζ4:List AV:=[.sl .sh (b.map encA),.sl .sh (c.map encA)];let ζ5:List AV:=[.sl .sh (u.map encA),.int .i64 0];gG 300 [] trivial (.callI known8'<|.ff<|.callI f1<|.ff<|.callI f2<|.ff<|.callI f3<|.ff<|.callG ([.sl .sh (a.map encA)]) (.sl .sh (a.map encA)) o1 ⟨rfl,rfl⟩ Res.p<|.callI k1<|.ff<|.callG ([.sl .sh (b.map encA)]) (.sl .sh (b.map encA)) o2 ⟨rfl,rfl⟩ Res.p<|.callI k2<|.ff<|.callG ([.sl .sh (c.map encA)]) (.sl .sh (c.map encA)) o3 ⟨rfl,rfl⟩ Res.p<|.callI k3<|.ff<|.callK (ζ3) (.bool true) t1<|.ff<|.callK ([.sl .full [],.sl .sh (a.map encA)]) (.bool true) t2<|.ff<|.callK ([.sl .sh (a.map encA),.sl .full []]) (.bool ((↑a.length:Int)==(0:Int))) t3<|.len (lM .sh encA a)<|.no (show(if true=true then !((↑a.length:Int)==(0:Int))==((↑a.length:Int)==(0:Int))else((↑a.length:Int)==(0:Int))==((↑a.length:Int)==(0:Int)))=false from Bool.eq_false_iff.2 (by simp+zetaDelta))<|.callK (ζ2) (.tuple ζ5) sb<|.callK (ζ1) (.bool true) t4<|.ff<|.callK (ζ4) (.bool false) t5<|.tt<|.tt<|.callK (ζ1) (.bool true) t4<|.tt<|.callK (ζ1) (.bool true) t4<|.ff<|.callK (ζ2) (.bool true) t7<|.ff<|.callK (ζ1) (.bool true) sv<|.fin ((.ret (.bool true),{boxes:=[],toks:=[],loops:=[]:Heap})) rfl)
         |true=>
          rw[x3]at t5
          rw[htr x1 x3]at t6
          exact let ζ1:List AV:=[.sl .sh (a.map encA),.sl .sh (b.map encA)];let ζ2:List AV:=[.sl .sh (b.map encA),.sl .sh (a.map encA)];let ζ3:List AV:=[.sl .sh (a.map encA),.sl .sh (a.map encA)];let ζ4:List AV:=[.sl .sh (b.map encA),.sl .sh (c.map encA)];let ζ5:List AV:=[.sl .sh (a.map encA),.sl .sh (c.map encA)];let ζ6:List AV:=[.sl .sh (u.map encA),.int .i64 0];gG 300 [] trivial (.callI known8'<|.ff<|.callI f1<|.ff<|.callI f2<|.ff<|.callI f3<|.ff<|.callG ([.sl .sh (a.map encA)]) (.sl .sh (a.map encA)) o1 ⟨rfl,rfl⟩ Res.p<|.callI k1<|.ff<|.callG ([.sl .sh (b.map encA)]) (.sl .sh (b.map encA)) o2 ⟨rfl,rfl⟩ Res.p<|.callI k2<|.ff<|.callG ([.sl .sh (c.map encA)]) (.sl .sh (c.map encA)) o3 ⟨rfl,rfl⟩ Res.p<|.callI k3<|.ff<|.callK (ζ3) (.bool true) t1<|.ff<|.callK ([.sl .full [],.sl .sh (a.map encA)]) (.bool true) t2<|.ff<|.callK ([.sl .sh (a.map encA),.sl .full []]) (.bool ((↑a.length:Int)==(0:Int))) t3<|.len (lM .sh encA a)<|.no (show(if true=true then !((↑a.length:Int)==(0:Int))==((↑a.length:Int)==(0:Int))else((↑a.length:Int)==(0:Int))==((↑a.length:Int)==(0:Int)))=false from Bool.eq_false_iff.2 (by simp+zetaDelta))<|.callK (ζ2) (.tuple ζ6) sb<|.callK (ζ1) (.bool true) t4<|.ff<|.callK (ζ4) (.bool true) t5<|.ff<|.callK (ζ5) (.bool true) t6<|.tt<|.callK (ζ1) (.bool true) t4<|.tt<|.callK (ζ1) (.bool true) t4<|.ff<|.callK (ζ2) (.bool true) t7<|.ff<|.callK (ζ1) (.bool true) sv<|.fin ((.ret (.bool true),{boxes:=[],toks:=[],loops:=[]:Heap})) rfl)
      ·generalize ckV c=e at k3 e3
       exact gG 160 [] trivial (.callI known8'<|.ff<|.callI f1<|.ff<|.callI f2<|.ff<|.callI f3<|.ff<|.callG ([.sl .sh (a.map encA)]) (.sl .sh (a.map encA)) o1 ⟨rfl,rfl⟩ Res.p<|.callI k1<|.ff<|.callG ([.sl .sh (b.map encA)]) (.sl .sh (b.map encA)) o2 ⟨rfl,rfl⟩ Res.p<|.callI k2<|.ff<|.callG ([.sl .sh (c.map encA)]) (.sl .sh (c.map encA)) o3 ⟨rfl,rfl⟩ Res.p<|.callI k3<|.yes (show(e !=(0:Int))=true from(by simpa using e3))<|.fin ((.ret (.bool true),{boxes:=[],toks:=[],loops:=[]:Heap})) rfl)
     ·generalize ckV b=e at k2 e2
      exact gG 160 [] trivial (.callI known8'<|.ff<|.callI f1<|.ff<|.callI f2<|.ff<|.callI f3<|.ff<|.callG ([.sl .sh (a.map encA)]) (.sl .sh (a.map encA)) o1 ⟨rfl,rfl⟩ Res.p<|.callI k1<|.ff<|.callG ([.sl .sh (b.map encA)]) (.sl .sh (b.map encA)) o2 ⟨rfl,rfl⟩ Res.p<|.callI k2<|.yes (show(e !=(0:Int))=true from(by simpa using e2))<|.tt<|.fin ((.ret (.bool true),{boxes:=[],toks:=[],loops:=[]:Heap})) rfl)
    ·generalize ckV a=e at k1 e1
     exact gG 160 [] trivial (.callI known8'<|.ff<|.callI f1<|.ff<|.callI f2<|.ff<|.callI f3<|.ff<|.callG ([.sl .sh (a.map encA)]) (.sl .sh (a.map encA)) o1 ⟨rfl,rfl⟩ Res.p<|.callI k1<|.yes (show(e !=(0:Int))=true from(by simpa using e1))<|.tt<|.tt<|.fin ((.ret (.bool true),{boxes:=[],toks:=[],loops:=[]:Heap})) rfl)
end Go.Aa.T
set_option linter.unusedVariables false
set_option linter.unusedSimpArgs false
set_option maxRecDepth 100000
namespace Go.Aa.T
open Go.Aa Go.Proofs
theorem map_of2{α:Type}{f:α→AV}{Q:AV→Prop}{S:α→Prop}(h:∀y,Q y→∃x,y=f x∧S x):∀(l:List AV),(∀y∈l,Q y)→∃t:List α,l=t.map f∧∀x∈t,S x
 |[],_=>⟨[],rfl,by simp⟩
 |y::l,hl=>by
  obtain⟨x,rfl,hx⟩:=h y (hl y (by simp))
  obtain⟨t,rfl,ht⟩:=map_of2 h l (fun z hz=>hl z (by simp[hz]))
  exact⟨x::t,rfl,by simpa using⟨hx,ht⟩⟩
theorem i64_range{m:Int}(h:(Lit.int .i64 m).wf=true): -9223372036854775808≤m∧m≤9223372036854775807:=by
 have h':IntKind.i64.min≤m∧m≤IntKind.i64.max:=by simpa[Lit.wf,IntKind.has]using h
 have e1:IntKind.i64.min= -9223372036854775808:=rfl
 have e2:IntKind.i64.max=9223372036854775807:=rfl
 omega
theorem tys2{R:TypeId→List AV→Prop}{f1 f2:Field}{cs:List AV}(h:Tys R (#[f1,f2]:Array Field).toList cs):∃a1 a2,cs=a1++(a2)∧R f1.type a1∧R f2.type a2:=by
 obtain⟨a1,b1,rfl,h1,a2,b2,rfl,h2,e⟩:=(show Tys R [f1,f2] cs from h)
 cases e
 exact⟨a1,a2,by simp,h1,h2⟩
theorem ty52{k:Nat}{y:AV}(h:TyV Tryz.prog (k+2) 52 y):∃x:Amount,y=encA x∧(-9223372036854775808≤x.n∧x.n≤9223372036854775807):=by
 obtain⟨cs,rfl,hh⟩:=tyv_struct Tryz.underlying52 h
 obtain⟨a1,a2,rfl,h1,h2⟩:=tys2 hh
 obtain⟨s1,rfl,-⟩:=ty_string Tryz.underlying9 h1
 obtain⟨s2,rfl,w2⟩:=ty_int Tryz.underlying2 h2
 have r2:=i64_range w2
 exact⟨⟨s1,s2⟩,rfl,r2⟩
theorem ty23{k:Nat}{y:AV}(h:TyV Tryz.prog (k+3) 23 y):∃t:List Amount,y=.sl .sh (t.map encA)∧∀x∈t,-9223372036854775808≤x.n∧x.n≤9223372036854775807:=by
 obtain⟨l,rfl,-,hl⟩:=tyv_slice Tryz.underlying23 h
 obtain⟨t,rfl,hs⟩:=map_of2 (S:=fun x:Amount=> -9223372036854775808≤x.n∧x.n≤9223372036854775807) (fun y hy=>ty52 hy) l hl
 exact⟨t,rfl,hs⟩
theorem law7(xs:List AV)(h:TyAll Tryz.prog 5 [23,23,23] xs)(hz:SzAll Tryz.prog [23,23,23] xs):∃H',lim cfg (.fn 7) xs Heap.nil=some (.ret (.bool true),H'):=by
 obtain⟨x1,x2,x3,rfl,h1,h2,h3⟩:=tyall_3 h
 obtain⟨a,rfl,ra⟩:=ty23 (k:=2) h1
 obtain⟨b,rfl,rb⟩:=ty23 (k:=2) h2
 obtain⟨c,rfl,rc⟩:=ty23 (k:=2) h3
 exact(resFits a b c ra rb rc).ret
end Go.Aa.T
namespace Go.Proofs
open Go.Shelf
def Tryz.lays160_ren:Go.Shelf.Ren:=⟨fun|160=>65|232=>84|231=>83|227=>85|234=>87|233=>86|236=>89|235=>88|228=>106|271=>108|151=>107|197=>101|120=>130|152=>129|260=>119|137=>150|119=>151|224=>122|225=>121|217=>120|266=>143|n=>n,fun|9=>9|4=>4|3=>3|5=>5|117=>110|116=>109|0=>0|124=>113|21=>21|105=>125|46=>123|119=>160|139=>163|138=>162|n=>n,fun|3=>4|4=>5|n=>n⟩
theorem Tryz.lays160:Go.Proofs.Lays.n160 Tryz.prog Tryz.lays160_ren:={
 mixed:=by kernel_rfl
 f119:=Tryz.func151.trans (congrArg some (by kernel_rfl))
 f120:=Tryz.func130.trans (congrArg some (by kernel_rfl))
 f137:=Tryz.func150.trans (congrArg some (by kernel_rfl))
 f151:=Tryz.func107.trans (congrArg some (by kernel_rfl))
 f152:=Tryz.func129.trans (congrArg some (by kernel_rfl))
 f160:=Tryz.func65.trans (congrArg some (by kernel_rfl))
 f197:=Tryz.func101.trans (congrArg some (by kernel_rfl))
 f217:=Tryz.func120.trans (congrArg some (by kernel_rfl))
 f224:=Tryz.func122.trans (congrArg some (by kernel_rfl))
 f225:=Tryz.func121.trans (congrArg some (by kernel_rfl))
 f227:=Tryz.func85.trans (congrArg some (by kernel_rfl))
 f228:=Tryz.func106.trans (congrArg some (by kernel_rfl))
 f231:=Tryz.func83.trans (congrArg some (by kernel_rfl))
 f232:=Tryz.func84.trans (congrArg some (by kernel_rfl))
 f233:=Tryz.func86.trans (congrArg some (by kernel_rfl))
 f234:=Tryz.func87.trans (congrArg some (by kernel_rfl))
 f235:=Tryz.func88.trans (congrArg some (by kernel_rfl))
 f236:=Tryz.func89.trans (congrArg some (by kernel_rfl))
 f260:=Tryz.func119.trans (congrArg some (by kernel_rfl))
 f266:=Tryz.func143.trans (congrArg some (by kernel_rfl))
 f271:=Tryz.func108.trans (congrArg some (by kernel_rfl))
 t0:=Tryz.underlying0
 a0:=Tryz.isAgg0
 z0:=Tryz.sizeOf0
 v0:=Tryz.zeroValue0
 t3:=Tryz.underlying3
 a3:=Tryz.isAgg3
 z3:=Tryz.sizeOf3
 v3:=Tryz.zeroValue3
 t4:=Tryz.underlying4
 a4:=Tryz.isAgg4
 z4:=Tryz.sizeOf4
 v4:=Tryz.zeroValue4
 t5:=Tryz.underlying5
 a5:=Tryz.isAgg5
 z5:=Tryz.sizeOf5
 v5:=Tryz.zeroValue5
 t9:=Tryz.underlying9
 a9:=Tryz.isAgg9
 z9:=Tryz.sizeOf9
 v9:=Tryz.zeroValue9
 t21:=Tryz.underlying21
 a21:=Tryz.isAgg21
 z21:=Tryz.sizeOf21
 v21:=Tryz.zeroValue21
 t46:=Tryz.underlying123
 a46:=Tryz.isAgg123
 z46:=Tryz.sizeOf123
 v46:=Tryz.zeroValue123
 t105:=Tryz.underlying125
 a105:=Tryz.isAgg125
 z105:=Tryz.sizeOf125
 v105:=Tryz.zeroValue125
 t116:=Tryz.underlying109
 a116:=Tryz.isAgg109
 z116:=Tryz.sizeOf109
 t117:=Tryz.underlying110
 a117:=Tryz.isAgg110
 z117:=Tryz.sizeOf110
 v117:=Tryz.zeroValue110
 t119:=Tryz.underlying160
 a119:=Tryz.isAgg160
 z119:=Tryz.sizeOf160
 t124:=Tryz.underlying113
 a124:=Tryz.isAgg113
 z124:=Tryz.sizeOf113
 v124:=Tryz.zeroValue113
 t138:=Tryz.underlying162
 a138:=Tryz.isAgg162
 z138:=Tryz.sizeOf162
 v138:=Tryz.zeroValue162
 t139:=Tryz.underlying163
 a139:=Tryz.isAgg163
 z139:=Tryz.sizeOf163
 v139:=Tryz.zeroValue163
 g3:=by kernel_rfl
 g4:=by kernel_rfl}
def Tryz.lays156_ren:Go.Shelf.Ren:=⟨fun|156=>36|165=>69|166=>70|169=>71|240=>94|241=>95|276=>114|277=>115|n=>n,fun|31=>54|9=>9|3=>3|4=>4|0=>0|20=>20|72=>85|76=>89|70=>82|37=>83|75=>88|127=>120|164=>138|5=>5|80=>91|n=>n,fun|n=>n⟩
theorem Tryz.lays156:Go.Proofs.Lays.n156 Tryz.prog Tryz.lays156_ren:={
 mixed:=by kernel_rfl
 f156:=Tryz.func36.trans (congrArg some (by kernel_rfl))
 f165:=Tryz.func69.trans (congrArg some (by kernel_rfl))
 f166:=Tryz.func70.trans (congrArg some (by kernel_rfl))
 f169:=Tryz.func71.trans (congrArg some (by kernel_rfl))
 f240:=Tryz.func94.trans (congrArg some (by kernel_rfl))
 f241:=Tryz.func95.trans (congrArg some (by kernel_rfl))
 f276:=Tryz.func114.trans (congrArg some (by kernel_rfl))
 f277:=Tryz.func115.trans (congrArg some (by kernel_rfl))
 t0:=Tryz.underlying0
 a0:=Tryz.isAgg0
 z0:=Tryz.sizeOf0
 v0:=Tryz.zeroValue0
 t3:=Tryz.underlying3
 a3:=Tryz.isAgg3
 z3:=Tryz.sizeOf3
 v3:=Tryz.zeroValue3
 t4:=Tryz.underlying4
 a4:=Tryz.isAgg4
 z4:=Tryz.sizeOf4
 v4:=Tryz.zeroValue4
 t9:=Tryz.underlying9
 a9:=Tryz.isAgg9
 z9:=Tryz.sizeOf9
 v9:=Tryz.zeroValue9
 t20:=Tryz.underlying20
 a20:=Tryz.isAgg20
 z20:=Tryz.sizeOf20
 v20:=Tryz.zeroValue20
 t31:=Tryz.underlying54
 a31:=Tryz.isAgg54
 z31:=Tryz.sizeOf54
 v31:=Tryz.zeroValue54
 t37:=Tryz.underlying83
 a37:=Tryz.isAgg83
 z37:=Tryz.sizeOf83
 v37:=Tryz.zeroValue83
 t70:=Tryz.underlying82
 a70:=Tryz.isAgg82
 z70:=Tryz.sizeOf82
 v70:=Tryz.zeroValue82
 t72:=Tryz.underlying85
 a72:=Tryz.isAgg85
 z72:=Tryz.sizeOf85
 v72:=Tryz.zeroValue85
 t75:=Tryz.underlying88
 a75:=Tryz.isAgg88
 z75:=Tryz.sizeOf88
 v75:=Tryz.zeroValue88
 t76:=Tryz.underlying89
 a76:=Tryz.isAgg89
 z76:=Tryz.sizeOf89
 v76:=Tryz.zeroValue89
 t127:=Tryz.underlying120
 a127:=Tryz.isAgg120
 z127:=Tryz.sizeOf120
 v127:=Tryz.zeroValue120
 t164:=Tryz.underlying138
 a164:=Tryz.isAgg138
 z164:=Tryz.sizeOf138
 v164:=Tryz.zeroValue138}
theorem Tryz.Builder_Extra_156:Builder.Extra Tryz.prog Tryz.lays156_ren:={
 sizeBuilder:=by kernel_rfl
 liesBuilder:=by kernel_rfl
 t5:=Tryz.underlying5
 a5:=Tryz.isAgg5
 z5:=Tryz.sizeOf5
 v5:=Tryz.zeroValue5
 infoByte:=by kernel_rfl
 cellsByte:=by kernel_rfl
 sizeByte:=by kernel_rfl
 neB5:=by decide}
def Tryz.lays143_ren:Go.Shelf.Ren:=⟨fun|143=>102|219=>103|217=>120|225=>121|224=>122|267=>123|266=>143|314=>144|n=>n,fun|9=>9|3=>3|4=>4|5=>5|46=>123|146=>164|51=>134|n=>n,fun|1=>3|n=>n⟩
theorem Tryz.lays143:Go.Proofs.Lays.n143 Tryz.prog Tryz.lays143_ren:={
 mixed:=by kernel_rfl
 f143:=Tryz.func102.trans (congrArg some (by kernel_rfl))
 f217:=Tryz.func120.trans (congrArg some (by kernel_rfl))
 f219:=Tryz.func103.trans (congrArg some (by kernel_rfl))
 f224:=Tryz.func122.trans (congrArg some (by kernel_rfl))
 f225:=Tryz.func121.trans (congrArg some (by kernel_rfl))
 f266:=Tryz.func143.trans (congrArg some (by kernel_rfl))
 f267:=Tryz.func123.trans (congrArg some (by kernel_rfl))
 f314:=Tryz.func144.trans (congrArg some (by kernel_rfl))
 t3:=Tryz.underlying3
 a3:=Tryz.isAgg3
 z3:=Tryz.sizeOf3
 v3:=Tryz.zeroValue3
 t4:=Tryz.underlying4
 a4:=Tryz.isAgg4
 z4:=Tryz.sizeOf4
 v4:=Tryz.zeroValue4
 t5:=Tryz.underlying5
 a5:=Tryz.isAgg5
 z5:=Tryz.sizeOf5
 v5:=Tryz.zeroValue5
 t9:=Tryz.underlying9
 a9:=Tryz.isAgg9
 z9:=Tryz.sizeOf9
 v9:=Tryz.zeroValue9
 t46:=Tryz.underlying123
 a46:=Tryz.isAgg123
 z46:=Tryz.sizeOf123
 v46:=Tryz.zeroValue123
 t51:=Tryz.underlying134
 a51:=Tryz.isAgg134
 z51:=Tryz.sizeOf134
 v51:=Tryz.zeroValue134
 t146:=Tryz.underlying164
 a146:=Tryz.isAgg164
 z146:=Tryz.sizeOf164
 v146:=Tryz.zeroValue164
 g1:=by kernel_rfl}
def Tryz.lays219_ren:Go.Shelf.Ren:=⟨fun|219=>103|217=>120|225=>121|224=>122|267=>123|266=>143|314=>144|n=>n,fun|9=>9|3=>3|4=>4|5=>5|46=>123|146=>164|51=>134|n=>n,fun|1=>3|n=>n⟩
theorem Tryz.lays219:Go.Proofs.Lays.n219 Tryz.prog Tryz.lays219_ren:={
 mixed:=by kernel_rfl
 f217:=Tryz.func120.trans (congrArg some (by kernel_rfl))
 f219:=Tryz.func103.trans (congrArg some (by kernel_rfl))
 f224:=Tryz.func122.trans (congrArg some (by kernel_rfl))
 f225:=Tryz.func121.trans (congrArg some (by kernel_rfl))
 f266:=Tryz.func143.trans (congrArg some (by kernel_rfl))
 f267:=Tryz.func123.trans (congrArg some (by kernel_rfl))
 f314:=Tryz.func144.trans (congrArg some (by kernel_rfl))
 t3:=Tryz.underlying3
 a3:=Tryz.isAgg3
 z3:=Tryz.sizeOf3
 v3:=Tryz.zeroValue3
 t4:=Tryz.underlying4
 a4:=Tryz.isAgg4
 z4:=Tryz.sizeOf4
 v4:=Tryz.zeroValue4
 t5:=Tryz.underlying5
 a5:=Tryz.isAgg5
 z5:=Tryz.sizeOf5
 v5:=Tryz.zeroValue5
 t9:=Tryz.underlying9
 a9:=Tryz.isAgg9
 z9:=Tryz.sizeOf9
 v9:=Tryz.zeroValue9
 t46:=Tryz.underlying123
 a46:=Tryz.isAgg123
 z46:=Tryz.sizeOf123
 v46:=Tryz.zeroValue123
 t51:=Tryz.underlying134
 a51:=Tryz.isAgg134
 z51:=Tryz.sizeOf134
 v51:=Tryz.zeroValue134
 t146:=Tryz.underlying164
 a146:=Tryz.isAgg164
 z146:=Tryz.sizeOf164
 v146:=Tryz.zeroValue164
 g1:=by kernel_rfl}
def Tryz.laysM173_ren:Go.Shelf.Ren:=⟨fun|173=>35|246=>68|283=>90|284=>91|285=>92|286=>93|129=>110|317=>109|318=>111|319=>112|320=>113|337=>131|338=>132|n=>n,fun|2=>2|3=>3|9=>9|4=>4|171=>115|0=>0|53=>96|37=>83|5=>5|173=>118|212=>133|51=>134|20=>20|213=>135|46=>123|232=>172|233=>173|n=>n,fun|17=>0|18=>8|19=>9|n=>n⟩
theorem Tryz.laysM173:Go.Proofs.LaysM.n173 Tryz.prog Tryz.laysM173_ren:={
 mixed:=by kernel_rfl
 f129:=Tryz.func110.trans (congrArg some (by kernel_rfl))
 f173:=Tryz.func35.trans (congrArg some (by kernel_rfl))
 f246:=Tryz.func68.trans (congrArg some (by kernel_rfl))
 f283:=Tryz.func90.trans (congrArg some (by kernel_rfl))
 f284:=Tryz.func91.trans (congrArg some (by kernel_rfl))
 f285:=Tryz.func92.trans (congrArg some (by kernel_rfl))
 f286:=Tryz.func93.trans (congrArg some (by kernel_rfl))
 f317:=Tryz.func109.trans (congrArg some (by kernel_rfl))
 f318:=Tryz.func111.trans (congrArg some (by kernel_rfl))
 f319:=Tryz.func112.trans (congrArg some (by kernel_rfl))
 f320:=Tryz.func113.trans (congrArg some (by kernel_rfl))
 f337:=Tryz.func131.trans (congrArg some (by kernel_rfl))
 f338:=Tryz.func132.trans (congrArg some (by kernel_rfl))
 t0:=Tryz.underlying0
 a0:=Tryz.isAgg0
 z0:=Tryz.sizeOf0
 v0:=Tryz.zeroValue0
 t2:=Tryz.underlying2
 a2:=Tryz.isAgg2
 z2:=Tryz.sizeOf2
 v2:=Tryz.zeroValue2
 t3:=Tryz.underlying3
 a3:=Tryz.isAgg3
 z3:=Tryz.sizeOf3
 v3:=Tryz.zeroValue3
 t4:=Tryz.underlying4
 a4:=Tryz.isAgg4
 z4:=Tryz.sizeOf4
 v4:=Tryz.zeroValue4
 t5:=Tryz.underlying5
 a5:=Tryz.isAgg5
 z5:=Tryz.sizeOf5
 v5:=Tryz.zeroValue5
 t9:=Tryz.underlying9
 a9:=Tryz.isAgg9
 z9:=Tryz.sizeOf9
 v9:=Tryz.zeroValue9
 t20:=Tryz.underlying20
 a20:=Tryz.isAgg20
 z20:=Tryz.sizeOf20
 v20:=Tryz.zeroValue20
 t37:=Tryz.underlying83
 a37:=Tryz.isAgg83
 z37:=Tryz.sizeOf83
 v37:=Tryz.zeroValue83
 t46:=Tryz.underlying123
 a46:=Tryz.isAgg123
 z46:=Tryz.sizeOf123
 v46:=Tryz.zeroValue123
 t51:=Tryz.underlying134
 a51:=Tryz.isAgg134
 z51:=Tryz.sizeOf134
 v51:=Tryz.zeroValue134
 t53:=Tryz.underlying96
 a53:=Tryz.isAgg96
 z53:=Tryz.sizeOf96
 v53:=Tryz.zeroValue96
 t171:=Tryz.underlying115
 a171:=Tryz.isAgg115
 z171:=Tryz.sizeOf115
 v171:=Tryz.zeroValue115
 t173:=Tryz.underlying118
 a173:=Tryz.isAgg118
 z173:=Tryz.sizeOf118
 v173:=Tryz.zeroValue118
 t212:=Tryz.underlying133
 a212:=Tryz.isAgg133
 z212:=Tryz.sizeOf133
 v212:=Tryz.zeroValue133
 t213:=Tryz.underlying135
 a213:=Tryz.isAgg135
 z213:=Tryz.sizeOf135
 t232:=Tryz.underlying172
 a232:=Tryz.isAgg172
 z232:=Tryz.sizeOf172
 v232:=Tryz.zeroValue172
 t233:=Tryz.underlying173
 a233:=Tryz.isAgg173
 z233:=Tryz.sizeOf173
 v233:=Tryz.zeroValue173
 g17:=by kernel_rfl
 g18:=by kernel_rfl
 g19:=by kernel_rfl
 i0:=by kernel_rfl
 i2:=by kernel_rfl
 i3:=by kernel_rfl
 i4:=by kernel_rfl
 i5:=by kernel_rfl
 i9:=by kernel_rfl
 i20:=by kernel_rfl
 i37:=by kernel_rfl
 i46:=by kernel_rfl
 i51:=by kernel_rfl
 i53:=by kernel_rfl
 i171:=by kernel_rfl
 i173:=by kernel_rfl
 i212:=by kernel_rfl
 i232:=by kernel_rfl
 i233:=by kernel_rfl
 m17:=by kernel_rfl
 m18:=by kernel_rfl
 m19:=by kernel_rfl}
def Tryz.laysC174_ren:Go.Shelf.Ren:=⟨fun|174=>82|247=>104|245=>105|287=>124|279=>125|280=>126|281=>127|282=>128|321=>145|322=>146|316=>147|171=>149|205=>148|243=>158|246=>68|283=>90|284=>91|285=>92|286=>93|129=>110|317=>109|318=>111|319=>112|320=>113|337=>131|338=>132|n=>n,fun|9=>9|3=>3|2=>2|75=>88|85=>105|4=>4|167=>143|5=>5|53=>96|175=>144|46=>123|168=>146|37=>83|0=>0|210=>169|21=>21|127=>120|145=>182|143=>180|171=>115|173=>118|212=>133|51=>134|20=>20|213=>135|232=>172|233=>173|80=>91|n=>n,fun|15=>6|16=>7|17=>0|18=>8|19=>9|n=>n⟩
theorem Tryz.laysC174:Go.Proofs.LaysC.n174 Tryz.prog Tryz.laysC174_ren:={
 mixed:=by kernel_rfl
 f129:=Tryz.func110.trans (congrArg some (by kernel_rfl))
 f171:=Tryz.func149.trans (congrArg some (by kernel_rfl))
 f174:=Tryz.func82.trans (congrArg some (by kernel_rfl))
 f205:=Tryz.func148.trans (congrArg some (by kernel_rfl))
 f243:=Tryz.func158.trans (congrArg some (by kernel_rfl))
 f245:=Tryz.func105.trans (congrArg some (by kernel_rfl))
 f246:=Tryz.func68.trans (congrArg some (by kernel_rfl))
 f247:=Tryz.func104.trans (congrArg some (by kernel_rfl))
 f279:=Tryz.func125.trans (congrArg some (by kernel_rfl))
 f280:=Tryz.func126.trans (congrArg some (by kernel_rfl))
 f281:=Tryz.func127.trans (congrArg some (by kernel_rfl))
 f282:=Tryz.func128.trans (congrArg some (by kernel_rfl))
 f283:=Tryz.func90.trans (congrArg some (by kernel_rfl))
 f284:=Tryz.func91.trans (congrArg some (by kernel_rfl))
 f285:=Tryz.func92.trans (congrArg some (by kernel_rfl))
 f286:=Tryz.func93.trans (congrArg some (by kernel_rfl))
 f287:=Tryz.func124.trans (congrArg some (by kernel_rfl))
 f316:=Tryz.func147.trans (congrArg some (by kernel_rfl))
 f317:=Tryz.func109.trans (congrArg some (by kernel_rfl))
 f318:=Tryz.func111.trans (congrArg some (by kernel_rfl))
 f319:=Tryz.func112.trans (congrArg some (by kernel_rfl))
 f320:=Tryz.func113.trans (congrArg some (by kernel_rfl))
 f321:=Tryz.func145.trans (congrArg some (by kernel_rfl))
 f322:=Tryz.func146.trans (congrArg some (by kernel_rfl))
 f337:=Tryz.func131.trans (congrArg some (by kernel_rfl))
 f338:=Tryz.func132.trans (congrArg some (by kernel_rfl))
 t0:=Tryz.underlying0
 a0:=Tryz.isAgg0
 z0:=Tryz.sizeOf0
 v0:=Tryz.zeroValue0
 t2:=Tryz.underlying2
 a2:=Tryz.isAgg2
 z2:=Tryz.sizeOf2
 v2:=Tryz.zeroValue2
 t3:=Tryz.underlying3
 a3:=Tryz.isAgg3
 z3:=Tryz.sizeOf3
 v3:=Tryz.zeroValue3
 t4:=Tryz.underlying4
 a4:=Tryz.isAgg4
 z4:=Tryz.sizeOf4
 v4:=Tryz.zeroValue4
 t5:=Tryz.underlying5
 a5:=Tryz.isAgg5
 z5:=Tryz.sizeOf5
 v5:=Tryz.zeroValue5
 t9:=Tryz.underlying9
 a9:=Tryz.isAgg9
 z9:=Tryz.sizeOf9
 v9:=Tryz.zeroValue9
 t20:=Tryz.underlying20
 a20:=Tryz.isAgg20
 z20:=Tryz.sizeOf20
 v20:=Tryz.zeroValue20
 t21:=Tryz.underlying21
 a21:=Tryz.isAgg21
 z21:=Tryz.sizeOf21
 v21:=Tryz.zeroValue21
 t37:=Tryz.underlying83
 a37:=Tryz.isAgg83
 z37:=Tryz.sizeOf83
 v37:=Tryz.zeroValue83
 t46:=Tryz.underlying123
 a46:=Tryz.isAgg123
 z46:=Tryz.sizeOf123
 v46:=Tryz.zeroValue123
 t51:=Tryz.underlying134
 a51:=Tryz.isAgg134
 z51:=Tryz.sizeOf134
 v51:=Tryz.zeroValue134
 t53:=Tryz.underlying96
 a53:=Tryz.isAgg96
 z53:=Tryz.sizeOf96
 v53:=Tryz.zeroValue96
 t75:=Tryz.underlying88
 a75:=Tryz.isAgg88
 z75:=Tryz.sizeOf88
 v75:=Tryz.zeroValue88
 t85:=Tryz.underlying105
 a85:=Tryz.isAgg105
 z85:=Tryz.sizeOf105
 v85:=Tryz.zeroValue105
 t127:=Tryz.underlying120
 a127:=Tryz.isAgg120
 z127:=Tryz.sizeOf120
 v127:=Tryz.zeroValue120
 t143:=Tryz.underlying180
 a143:=Tryz.isAgg180
 z143:=Tryz.sizeOf180
 v143:=Tryz.zeroValue180
 t145:=Tryz.underlying182
 a145:=Tryz.isAgg182
 z145:=Tryz.sizeOf182
 v145:=Tryz.zeroValue182
 t167:=Tryz.underlying143
 a167:=Tryz.isAgg143
 z167:=Tryz.sizeOf143
 v167:=Tryz.zeroValue143
 t168:=Tryz.underlying146
 a168:=Tryz.isAgg146
 z168:=Tryz.sizeOf146
 v168:=Tryz.zeroValue146
 t171:=Tryz.underlying115
 a171:=Tryz.isAgg115
 z171:=Tryz.sizeOf115
 v171:=Tryz.zeroValue115
 t173:=Tryz.underlying118
 a173:=Tryz.isAgg118
 z173:=Tryz.sizeOf118
 v173:=Tryz.zeroValue118
 t175:=Tryz.underlying144
 a175:=Tryz.isAgg144
 z175:=Tryz.sizeOf144
 v175:=Tryz.zeroValue144
 t210:=Tryz.underlying169
 a210:=Tryz.isAgg169
 z210:=Tryz.sizeOf169
 v210:=Tryz.zeroValue169
 t212:=Tryz.underlying133
 a212:=Tryz.isAgg133
 z212:=Tryz.sizeOf133
 v212:=Tryz.zeroValue133
 t213:=Tryz.underlying135
 a213:=Tryz.isAgg135
 z213:=Tryz.sizeOf135
 t232:=Tryz.underlying172
 a232:=Tryz.isAgg172
 z232:=Tryz.sizeOf172
 v232:=Tryz.zeroValue172
 t233:=Tryz.underlying173
 a233:=Tryz.isAgg173
 z233:=Tryz.sizeOf173
 v233:=Tryz.zeroValue173
 g15:=by kernel_rfl
 g16:=by kernel_rfl
 g17:=by kernel_rfl
 g18:=by kernel_rfl
 g19:=by kernel_rfl
 t80:=Tryz.underlying91
 a80:=Tryz.isAgg91
 z80:=Tryz.sizeOf91
 v80:=Tryz.zeroValue91
 i0:=by kernel_rfl
 i2:=by kernel_rfl
 i3:=by kernel_rfl
 i4:=by kernel_rfl
 i5:=by kernel_rfl
 i9:=by kernel_rfl
 i20:=by kernel_rfl
 i21:=by kernel_rfl
 i37:=by kernel_rfl
 i46:=by kernel_rfl
 i51:=by kernel_rfl
 i53:=by kernel_rfl
 i75:=by kernel_rfl
 i80:=by kernel_rfl
 i85:=by kernel_rfl
 i127:=by kernel_rfl
 i143:=by kernel_rfl
 i145:=by kernel_rfl
 i167:=by kernel_rfl
 i168:=by kernel_rfl
 i171:=by kernel_rfl
 i173:=by kernel_rfl
 i175:=by kernel_rfl
 i210:=by kernel_rfl
 i212:=by kernel_rfl
 i232:=by kernel_rfl
 i233:=by kernel_rfl
 m15:=by kernel_rfl
 m16:=by kernel_rfl
 m17:=by kernel_rfl
 m18:=by kernel_rfl
 m19:=by kernel_rfl
 c0:=by kernel_rfl
 c2:=by kernel_rfl
 c3:=by kernel_rfl
 c4:=by kernel_rfl
 c5:=by kernel_rfl
 c9:=by kernel_rfl
 c20:=by kernel_rfl
 c21:=by kernel_rfl
 c37:=by kernel_rfl
 c46:=by kernel_rfl
 c51:=by kernel_rfl
 c53:=by kernel_rfl
 c75:=by kernel_rfl
 c80:=by kernel_rfl
 c85:=by kernel_rfl
 c127:=by kernel_rfl
 c143:=by kernel_rfl
 c145:=by kernel_rfl
 c167:=by kernel_rfl
 c168:=by kernel_rfl
 c171:=by kernel_rfl
 c173:=by kernel_rfl
 c175:=by kernel_rfl
 c210:=by kernel_rfl
 c212:=by kernel_rfl
 c213:=by kernel_rfl
 c232:=by kernel_rfl
 c233:=by kernel_rfl}
def Tryz.lays190_ren:Go.Shelf.Ren:=⟨fun|190=>96|125=>117|258=>116|128=>142|129=>110|302=>133|303=>134|304=>135|305=>136|306=>137|307=>138|308=>139|309=>140|310=>141|333=>152|329=>153|330=>154|334=>155|335=>156|336=>157|344=>159|n=>n,fun|31=>54|9=>9|3=>3|46=>123|0=>0|51=>134|53=>96|4=>4|183=>153|182=>152|131=>158|5=>5|218=>174|222=>178|228=>183|229=>184|n=>n,fun|n=>n⟩
theorem Tryz.lays190:Go.Proofs.Lays.n190 Tryz.prog Tryz.lays190_ren:={
 mixed:=by kernel_rfl
 f125:=Tryz.func117.trans (congrArg some (by kernel_rfl))
 f128:=Tryz.func142.trans (congrArg some (by kernel_rfl))
 f129:=Tryz.func110.trans (congrArg some (by kernel_rfl))
 f190:=Tryz.func96.trans (congrArg some (by kernel_rfl))
 f258:=Tryz.func116.trans (congrArg some (by kernel_rfl))
 f302:=Tryz.func133.trans (congrArg some (by kernel_rfl))
 f303:=Tryz.func134.trans (congrArg some (by kernel_rfl))
 f304:=Tryz.func135.trans (congrArg some (by kernel_rfl))
 f305:=Tryz.func136.trans (congrArg some (by kernel_rfl))
 f306:=Tryz.func137.trans (congrArg some (by kernel_rfl))
 f307:=Tryz.func138.trans (congrArg some (by kernel_rfl))
 f308:=Tryz.func139.trans (congrArg some (by kernel_rfl))
 f309:=Tryz.func140.trans (congrArg some (by kernel_rfl))
 f310:=Tryz.func141.trans (congrArg some (by kernel_rfl))
 f329:=Tryz.func153.trans (congrArg some (by kernel_rfl))
 f330:=Tryz.func154.trans (congrArg some (by kernel_rfl))
 f333:=Tryz.func152.trans (congrArg some (by kernel_rfl))
 f334:=Tryz.func155.trans (congrArg some (by kernel_rfl))
 f335:=Tryz.func156.trans (congrArg some (by kernel_rfl))
 f336:=Tryz.func157.trans (congrArg some (by kernel_rfl))
 f344:=Tryz.func159.trans (congrArg some (by kernel_rfl))
 t0:=Tryz.underlying0
 a0:=Tryz.isAgg0
 z0:=Tryz.sizeOf0
 v0:=Tryz.zeroValue0
 t3:=Tryz.underlying3
 a3:=Tryz.isAgg3
 z3:=Tryz.sizeOf3
 v3:=Tryz.zeroValue3
 t4:=Tryz.underlying4
 a4:=Tryz.isAgg4
 z4:=Tryz.sizeOf4
 v4:=Tryz.zeroValue4
 t5:=Tryz.underlying5
 a5:=Tryz.isAgg5
 z5:=Tryz.sizeOf5
 v5:=Tryz.zeroValue5
 t9:=Tryz.underlying9
 a9:=Tryz.isAgg9
 z9:=Tryz.sizeOf9
 v9:=Tryz.zeroValue9
 t31:=Tryz.underlying54
 a31:=Tryz.isAgg54
 z31:=Tryz.sizeOf54
 v31:=Tryz.zeroValue54
 t46:=Tryz.underlying123
 a46:=Tryz.isAgg123
 z46:=Tryz.sizeOf123
 v46:=Tryz.zeroValue123
 t51:=Tryz.underlying134
 a51:=Tryz.isAgg134
 z51:=Tryz.sizeOf134
 v51:=Tryz.zeroValue134
 t53:=Tryz.underlying96
 a53:=Tryz.isAgg96
 z53:=Tryz.sizeOf96
 v53:=Tryz.zeroValue96
 t131:=Tryz.underlying158
 a131:=Tryz.isAgg158
 z131:=Tryz.sizeOf158
 v131:=Tryz.zeroValue158
 t182:=Tryz.underlying152
 a182:=Tryz.isAgg152
 z182:=Tryz.sizeOf152
 v182:=Tryz.zeroValue152
 t183:=Tryz.underlying153
 a183:=Tryz.isAgg153
 z183:=Tryz.sizeOf153
 v183:=Tryz.zeroValue153
 t218:=Tryz.underlying174
 a218:=Tryz.isAgg174
 z218:=Tryz.sizeOf174
 v218:=Tryz.zeroValue174
 t222:=Tryz.underlying178
 a222:=Tryz.isAgg178
 z222:=Tryz.sizeOf178
 v222:=Tryz.zeroValue178
 t228:=Tryz.underlying183
 a228:=Tryz.isAgg183
 z228:=Tryz.sizeOf183
 v228:=Tryz.zeroValue183
 t229:=Tryz.underlying184
 a229:=Tryz.isAgg184
 z229:=Tryz.sizeOf184
 v229:=Tryz.zeroValue184}
def Tryz.lays725_ren:Go.Shelf.Ren:=⟨fun|25=>98|n=>n,fun|22=>96|n=>n,fun|n=>n⟩
theorem Tryz.lays725:Go.Proofs.Lays7.n25 Tryz.prog Tryz.lays725_ren:={
 mixed:=by kernel_rfl
 f25:=Tryz.func98.trans (congrArg some (by kernel_rfl))
 t22:=Tryz.underlying96
 a22:=Tryz.isAgg96
 z22:=Tryz.sizeOf96
 v22:=Tryz.zeroValue96
 i22:=by kernel_rfl}
end Go.Proofs
set_option linter.unusedVariables false
set_option linter.unusedSimpArgs false
set_option maxRecDepth 100000
namespace Go.Aa.T
open Go.Aa Go.Proofs Go.RowKit Go.Shelf
theorem cfgOk:CfgOk Tryz.prog cfg:=by
 refine⟨by kernel_rfl,fun f A h=>tab_fn h,fun f g h=> ?_,fun f h=> ?_⟩
 ·have h:extF f=some g:=h
  unfold extF at h
  split at h<;>simp only[Option.some.injEq,reduceCtorEq]at h<;>subst h
  ·exact ext_trim (fun _ _=>by kernel_rfl) fun s c w h1 h2 h3=>Any.strings_Trim_laid Tryz.lays160 (by kernel_rfl) s c w h1 h2 h3
  ·exact ext_join (fun _ _=>by kernel_rfl) (fun a c sep w=>Any.strings_Join_none Tryz.lays156 Tryz.Builder_Extra_156 a c sep w) fun bk o c xs sep w h1 h2 h3 h4 h5=>Any.strings_Join Tryz.lays156 Tryz.Builder_Extra_156 bk o c xs sep w h1 h2 h3 h4 h5
  ·exact ext_index (fun _ _=>by kernel_rfl) fun s c w=>Any.strings_Index_one Tryz.lays143 s c w
  ·exact ext_index (fun _ _=>by kernel_rfl) fun s c w=>Any.stringslite_Index_one Tryz.lays219 s c w
  ·exact ext_fmt (fun _ _=>by kernel_rfl) (g:=0) (by kernel_rfl) fun n w h0 h1 ht=>(Any.strconv_FormatInt_10 Tryz.laysM173 n h0 h1 w ht).mono fun e w' hh=>⟨hh.1,by obtain⟨_,k,os,rfl⟩:=hh;exact Lib.below_grow _ _ (Nat.le_refl _) _ _⟩
  ·exact ext_parse (fun _ _=>by kernel_rfl) (g1:=6) (g2:=7) (by kernel_rfl) (by kernel_rfl)
    (fun s v w hz he=>(Any.strconv_ParseInt_10_at64_ok Tryz.laysC174 s (by omega) v he w).mono fun e w' hh=>⟨hh.1,by
      obtain⟨_,rfl|⟨t,rfl⟩⟩:=hh
      ·exact Below.refl _ _
      ·exact Lib.bytesWorld_below _ _ _⟩)
    (fun s w tp p hz he hv=>(Any.strconv_ParseInt_10_at64_syntax_var Tryz.laysC174 s hz he tp p w hv).mono fun e w' hh=>by
      obtain⟨N,h1,_,_,h2⟩:=hh
      exact⟨_,h1,h2⟩)
    (fun s w tp p hz he hv=>(Any.strconv_ParseInt_10_at64_range_var Tryz.laysC174 s hz he tp p w hv).mono fun e w' hh=>by
      obtain⟨N,h1,_,_,h2⟩:=hh
      exact⟨_,h1,h2⟩)
  ·exact ext_sort (fun _ _=>by kernel_rfl) (fun a c w=>Any.slices_Sort_string_none Tryz.lays190 a c w) fun blk off cap ss w h1 h2 h3=>Any.slices_Sort_string Tryz.lays190 blk off cap ss w h1 h2 h3
  ·exact ext_add64 fun x y c hc w=>Any7.bits_Add64 Tryz.lays725 x y c hc w
 ·have h:(f==56)=true:=h
  have:f=56:=by simpa using h
  subst this
  exact Go.Proofs.YtldgihaiddnkbaaGreatDoor.T.tryOk
#print axioms cfgOk
end Go.Aa.T
set_option linter.unusedVariables false
set_option linter.unusedSimpArgs false
set_option maxRecDepth 100000
namespace Go.Aa.T
open Go.Aa Go.Proofs Go.RowKit Go.ChangeShapes Go.Proofs.YtldgihaiddnkbaaGreatDoor
theorem star: "*" ++ "errors.errorString" = "*errors.errorString" :=by decide
theorem rowES(u:TypeId)(h:Tryz.prog.typeName? 3 u=some "*errors.errorString"):u=180:=
 typeName_ptr_named (nm:= "errors.errorString") (by rw[star];kernel_rfl) (by kernel_rfl) (by decide) u (by rw[star];exact h)
theorem var_heap{P:Program}{W:World}{n:String}{cs:Array Value}{g:Nat}(h:W.var? P n=some cs)(hg:P.globalNamed n=some g):∃e m,W.heap[g]?=some (.cells cs e m):=by
 simp only[World.var?,hg,Option.bind_some]at h
 split at h
 ·rename_i cs' e m hc
  cases h
  exact⟨e,m,hc⟩
 ·cases h
def laidL:List (String×DataW Unit):=Rows.resFitsRow.laid
theorem pow_eq:(Rows.laid_internal_strconv_uint64pow10:DataW Unit)=Lib.tabData .u64 Lib.pow10Tab:=by kernel_rfl
theorem cellsES:Tryz.prog.cellsOf 182=1:=by kernel_rfl
theorem cellsS:Tryz.prog.cellsOf 9=1:=by kernel_rfl
theorem glob0W{W:World}(h:laidMet Tryz.prog laidL W):Glob0 Tryz.prog W:=by
 have h2:=laidMet.tail (laidMet.tail h)
 have ht:Lib.TabIs Tryz.prog W "internal/strconv.uint64pow10" .u64 Lib.pow10Tab:=by
  have h3:laidMet Tryz.prog (("internal/strconv.uint64pow10",Rows.laid_internal_strconv_uint64pow10)::_) W:=h2
  rw[pow_eq]at h3
  exact Lib.tabIs_of_head (g:=0) (t:=133) (n:=20) (by kernel_rfl) (by kernel_rfl) Tryz.underlying133 Tryz.underlying96 (by kernel_rfl) (by kernel_rfl) h3
 have h4:=laidMet.tail (laidMet.tail h2)
 obtain⟨a1,s1,hv1,-,-,-⟩:=laid_sentinel h4 (g:=7) (ti:=88) (tp:=180) (te:=182) (ts:=9) (by kernel_rfl) (by kernel_rfl) Tryz.underlying88 rowES Tryz.underlying180 Tryz.underlying182 rfl rfl Tryz.underlying9 cellsES cellsS
 have h5:=laidMet.tail h4
 obtain⟨a2,s2,hv2,-,-,-⟩:=laid_sentinel h5 (g:=6) (ti:=88) (tp:=180) (te:=182) (ts:=9) (by kernel_rfl) (by kernel_rfl) Tryz.underlying88 rowES Tryz.underlying180 Tryz.underlying182 rfl rfl Tryz.underlying9 cellsES cellsS
 intro s hs g hg
 simp only[globSpec,List.mem_cons,List.not_mem_nil,or_false]at hs
 rcases hs with rfl|rfl|rfl
 ·obtain⟨e,m,hh⟩:=var_heap ht hg
  exact⟨_,e,m,hh,rfl⟩
 ·obtain⟨e,m,hh⟩:=var_heap hv2 hg
  exact⟨_,e,m,hh,_,_,rfl⟩
 ·obtain⟨e,m,hh⟩:=var_heap hv1 hg
  exact⟨_,e,m,hh,_,_,rfl⟩
end Go.Aa.T
set_option linter.unusedVariables false
set_option linter.unusedSimpArgs false
namespace Go.Aa
variable{P:Program}{R:List (Nat×Nat)}
def rkOf(R:List (Nat×Nat))(u:Nat):Option Nat:=(R.find? fun p=>p.1==u).map (·.2)
def rkB(P:Program)(R:List (Nat×Nat)):Bool:=R.all fun p=>(P.partsOf p.1).all fun v=>match rkOf R v with
 |some r=>Nat.blt r p.2
 |none=>false
theorem rk_part(h:rkB P R=true){u ru v:Nat}(hu:rkOf R u=some ru)(hv:v∈P.partsOf u):∃r,rkOf R v=some r∧r<ru:=by
 unfold rkOf at hu
 obtain⟨p,hp,rfl⟩:=Option.map_eq_some_iff.1 hu
 have hm:=List.mem_of_find?_eq_some hp
 have he:=List.find?_some hp
 simp only[beq_iff_eq]at he
 have h1:=List.all_eq_true.1 h p hm
 rw[he]at h1
 have h2:=List.all_eq_true.1 h1 v hv
 split at h2
 ·rename_i r hr
  exact⟨r,hr,by simpa using h2⟩
 ·cases h2
theorem rk_grow(h:rkB P R=true){s:List TypeId}{r:Nat}(hs:∀x∈s,∃q,rkOf R x=some q∧q≤r):∀x∈P.grow s,∃q,rkOf R x=some q∧q≤r:=by
 intro x hx
 unfold Program.grow at hx
 rw[List.mem_eraseDups,List.mem_append]at hx
 rcases hx with hx|hx
 ·exact hs x hx
 ·obtain⟨u,hu,hx⟩:=List.mem_flatMap.1 hx
  obtain⟨q,hq,hl⟩:=hs u hu
  obtain⟨q',hq',hl'⟩:=rk_part h hq hx
  exact⟨q',hq',by omega⟩
theorem rk_grown(h:rkB P R=true){r:Nat}:∀(n:Nat){s:List TypeId},(∀x∈s,∃q,rkOf R x=some q∧q≤r)→∀x∈P.grown n s,∃q,rkOf R x=some q∧q≤r
 |0,_,hs=>hs
 |n+1,_,hs=>rk_grown h n (rk_grow h hs)
theorem rk_book(h:rkB P R=true){t r:Nat}(ht:rkOf R t=some r):∀x∈P.book t,∃q,rkOf R x=some q∧q≤r:=
 rk_grown h _ fun x hx=>by
  rw[List.mem_singleton]at hx
  subst hx
  exact⟨r,ht,Nat.le_refl _⟩
theorem rk_loops(h:rkB P R=true){t r:Nat}(ht:rkOf R t=some r):P.loopsFrom t=false:=by
 unfold Program.loopsFrom
 rw[List.any_eq_false]
 intro u hu
 obtain⟨ru,hu1,-⟩:=rk_book h ht u hu
 simp only[Bool.not_eq_true]
 rw[List.any_eq_false]
 intro v hv
 obtain⟨rv,hv1,hlt⟩:=rk_part h hu1 hv
 intro hc
 have hm:u∈P.book v:=by simpa using hc
 obtain⟨q,hq,hl⟩:=rk_book h hv1 u hm
 rw[hu1]at hq
 simp only[Option.some.injEq]at hq
 omega
theorem rk_all(h:rkB P R=true){ts:List TypeId}(ht:(ts.all fun t=>(rkOf R t).isSome)=true):ts.any (P.loopsFrom ·)=false:=by
 rw[List.any_eq_false]
 intro t hm
 have:=List.all_eq_true.1 ht t hm
 obtain⟨r,hr⟩:=Option.isSome_iff_exists.1 this
 rw[rk_loops h hr]
 exact Bool.false_ne_true
end Go.Aa
