/-
  WHAT THE LAW LEANS ON, part 6 of 6: a machine of values and its soundness; the functions of the law upon it; what they come to.
-/
import Derived.Test.YtbcfceehklfojaaGreatDoorVwore
import Derived.Shelf.Sort.Plain
import Derived.Shelf.Slices.In.SortNone
import Derived.Shelf.Slices.In.SortAlone
import Derived.Shelf.Small.Strs
import Derived.Shelf.Spec.BitsCarry
import Derived.Shelf.Strconv.Itoa3
import Derived.Shelf.Strconv.Itoa4
import Derived.Shelf.Strconv.ParseIntPublic10
import Derived.Shelf.Strconv.ErrVarParseInt
import Derived.Shelf.Small.Strs
import Derived.Test.YtbcfceehklfojaaGreatDoorRows
import Derived.Stop.LaidErr
import Derived.JoinedOf
set_option linter.unusedVariables false
set_option linter.unusedSimpArgs false
set_option maxRecDepth 100000
namespace Go.Aa.T
open Go.Aa Go.Proofs
theorem ib_none{c:UInt8}:∀{a:List UInt8},c∉a→Lib.indexByte a c= -1
 |[],_=>rfl
 |b::a,h=>by
  simp only[List.mem_cons,not_or]at h
  have hb:(b==c)=false:=by rw[beq_eq_false_iff_ne];exact fun e=>h.1 e.symm
  unfold Lib.indexByte
  rw[ib_none h.2,hb]
  rfl
theorem ib_at{c:UInt8}{b:List UInt8}:∀{a:List UInt8},c∉a→Lib.indexByte (a++c::b) c=(a.length:Int)
 |[],_=>by simp[Lib.indexByte]
 |x::a,h=>by
  simp only[List.mem_cons,not_or]at h
  have hb:(x==c)=false:=by rw[beq_eq_false_iff_ne];exact fun e=>h.1 e.symm
  rw[List.cons_append,Lib.indexByte,ib_at h.2,hb]
  have:((a.length:Int)== -1)=false:=by rw[beq_eq_false_iff_ne];omega
  simp[this]
theorem index1(f:FuncId)(s:List UInt8)(c:UInt8)(ht:cfg.tryF f=false)(hx:cfg.ext f=some indexE):Gives cfg f [.str s,.str [c]] (.int .i64 (Lib.indexByte s c)):=by
 refine Gives.of (H':=Heap.nil) ?_
 rw[lim_ext ht hx];rfl
theorem cut_hit(a b:List UInt8)(c:UInt8)(h:c∉a)(hl:a.length+b.length≤1000):Gives cfg 77 [.str (a++c::b),.str [c]] (.tuple [.str a,.str b,.bool true]):=by
 have hi:Gives cfg 131 [.str (a++c::b),.str [c]] (.int .i64 (a.length:Nat)):=by
  have:=index1 131 (a++c::b) c rfl rfl
  rwa [ib_at h]at this
 have e1:(a++c::b).take a.length=a:=by simp
 have e2:(a++c::b).drop (a.length+1)=b:=by rw[List.drop_append];simp
 have hc:Gives cfg 107 [.str (a++c::b),.str [c]] (.tuple [.str a,.str b,.bool true]):=by
  refine Gives.run (l107 _ _) ?_
  exact goG 60 [] trivial (.callI hi<|.tt<|.slice (show sliceA (0:Nat) (.str (a++c::b)) none (some (.int .i64 (↑a.length))) none=some (.str (List.take a.length (a++c::b)))from sstr_to (by simp))<|.len (show lenA true (.str [c])=some (.int .i64 (↑[c].length:Int))from len_str _)<|.bin (show binA .add (.int .i64 (↑a.length)) (.int .i64 (↑[c].length:Int))=some (.int .i64 (↑(a.length+(1:Nat)):Int))from inc_i (by omega))<|.slice (show sliceA (0:Nat) (.str (a++c::b)) (some (.int .i64 (↑(a.length+(1:Nat)):Int))) none none=some (.str (List.drop (a.length+(1:Nat)) (a++c::b)))from sstr_from (by simp))<|.fin ((.ret (.tuple [.str (List.take a.length (a++c::b)),.str (List.drop (a.length+(1:Nat)) (a++c::b)),.bool true]),Heap.mk [] [] [])) (by simp only[IsRet,e1,e2])) (by kernel_rfl)
 refine Gives.run (l77 _ _) ?_
 exact goG 60 [] trivial (.callI hc<|.fin ((.ret (.tuple [.str a,.str b,.bool true]),Heap.mk [] [] [])) rfl) (by kernel_rfl)
theorem cut_miss(a:List UInt8)(c:UInt8)(h:c∉a):Gives cfg 77 [.str a,.str [c]] (.tuple [.str a,.str [],.bool false]):=by
 have hi:Gives cfg 131 [.str a,.str [c]] (.int .i64 (-1)):=by
  have:=index1 131 a c rfl rfl
  rwa [ib_none h]at this
 have hc:Gives cfg 107 [.str a,.str [c]] (.tuple [.str a,.str [],.bool false]):=by
  refine Gives.run (l107 _ _) ?_
  exact goG 60 [] trivial (.callI hi<|.ff<|.fin ((.ret (.tuple [.str a,.str [],.bool false]),Heap.mk [] [] [])) rfl) (by kernel_rfl)
 refine Gives.run (l77 _ _) ?_
 exact goG 60 [] trivial (.callI hc<|.fin ((.ret (.tuple [.str a,.str [],.bool false]),Heap.mk [] [] [])) rfl) (by kernel_rfl)
end Go.Aa.T
set_option linter.unusedVariables false
set_option linter.unusedSimpArgs false
set_option maxRecDepth 100000
namespace Go.Aa.T
open Go.Aa Go.Proofs
def cutAt(c:UInt8):List UInt8→Option (List UInt8×List UInt8)
 |[]=>none
 |b::r=>if b=c then some ([],r)else(cutAt c r).map fun p=>(b::p.1,p.2)
theorem cutAt_none{c:UInt8}:∀{w:List UInt8},cutAt c w=none→c∉w
 |[],_=>by simp
 |b::r,h=>by
  unfold cutAt at h
  split at h
  ·cases h
  ·rename_i hb
   have:=cutAt_none (w:=r) (by simpa using h)
   simp only[List.mem_cons,not_or]
   exact⟨fun e=>hb e.symm,this⟩
theorem cutAt_some{c:UInt8}:∀{w a b:List UInt8},cutAt c w=some (a,b)→w=a++c::b∧c∉a
 |[],_,_,h=>by cases h
 |x::r,a,b,h=>by
  unfold cutAt at h
  split at h
  ·rename_i hx
   simp only[Option.some.injEq,Prod.mk.injEq]at h
   obtain⟨rfl,rfl⟩:=h
   subst hx
   simp
  ·rename_i hx
   simp only[Option.map_eq_some_iff,Prod.mk.injEq,Prod.exists]at h
   obtain⟨a',b',h1,rfl,rfl⟩:=h
   obtain⟨e,hn⟩:=cutAt_some h1
   refine⟨by rw[e];rfl,?_⟩
   simp only[List.mem_cons,not_or]
   exact⟨fun e=>hx e.symm,hn⟩
def parts(c:UInt8):List UInt8→List (List UInt8)
 |[]=>[[]]
 |b::r=>if b=c then []::parts c r else match parts c r with
  |[]=>[[b]]
  |x::xs=>(b::x)::xs
theorem parts_none{c:UInt8}:∀{w:List UInt8},c∉w→parts c w=[w]
 |[],_=>rfl
 |b::r,h=>by
  simp only[List.mem_cons,not_or]at h
  have hb:¬b=c:=fun e=>h.1 e.symm
  simp only[parts,if_neg hb,parts_none h.2]
theorem parts_some{c:UInt8}{b:List UInt8}:∀{a:List UInt8},c∉a→parts c (a++c::b)=a::parts c b
 |[],_=>by simp[parts]
 |x::a,h=>by
  simp only[List.mem_cons,not_or]at h
  have hb:¬x=c:=fun e=>h.1 e.symm
  simp only[List.cons_append,parts,if_neg hb,parts_some h.2]
def foldE{α:Type}(f:α→List UInt8→Option α)(a:α):List (List UInt8)→Option α
 |[]=>some a
 |p::ps=>match f a p with
  |some a'=>foldE f a' ps
  |none=>none
section
variable{α:Type}(o0 o1 o2 o3:α→List AV)(tk:α→List Nat)(rc:LRec)(v:AV)(I:α→Nat→Prop)
def hS(a:α)(rest:List UInt8):Heap:=⟨[o0 a,o1 a,o2 a,o3 a,[.str rest],[.str [44]],[.int .i64 0]],tk a,[rc]⟩
def hB(a:α)(rest:List UInt8):Heap:=⟨[o0 a,o1 a,o2 a,o3 a,[.str rest],[.str [44]],[.int .i64 0]],tk a,[{rc with busy:=true}]⟩
theorem Goes.imp{A:AFunc}{k:List AIt}{T:Env}{H:Heap}{R R':ARes×Heap→Prop}(h:Goes cfg A k T H R)(i:∀r,R r→R' r):Goes cfg A k T H R':=by
 obtain⟨r,h1,h2⟩:=h
 exact⟨r,h1,i r h2⟩
end
end Go.Aa.T
set_option linter.unusedVariables false
set_option linter.unusedSimpArgs false
set_option maxRecDepth 100000
namespace Go.Aa.T
open Go.Aa Go.Proofs
theorem parts_ne(c:UInt8):∀s:List UInt8,parts c s≠[]
 |[]=>by simp[parts]
 |b::r=>by
  unfold parts
  split
  ·simp
  ·split<;>simp
end Go.Aa.T
set_option linter.unusedVariables false
set_option linter.unusedSimpArgs false
set_option maxRecDepth 100000
namespace Go.Aa.T
open Go.Aa Go.Proofs
def strs(l:List (List UInt8)):List AV:=l.map AV.str
theorem strs_el(l:List (List UInt8)):(strs l).all (elOk 1)=true:=by
 induction l with
 |nil=>rfl
 |cons x l ih=>simp only[strs,List.map_cons,List.all_cons,Bool.and_eq_true];exact⟨rfl,ih⟩
theorem strs_dataT(l:List (List UInt8)):dataOk (strs l)=true:=by
 induction l with
 |nil=>rfl
 |cons x l ih=>simp only[dataOk,strs,List.map_cons,List.all_cons,Bool.and_eq_true];exact⟨rfl,ih⟩
theorem strs_cells(l:List (List UInt8)):rowCells (strs l)=strs l:=by
 induction l with
 |nil=>rfl
 |cons x l ih=>
  simp only[rowCells,strs,List.map_cons,List.flatMap_cons]at ih⊢
  rw[ih];rfl
def hSp(acc:List (List UInt8))(cur:List UInt8):Heap:=hM acc.length (strs (acc++[cur]))
def mSp(acc:List (List UInt8)):AV:=.msl acc.length 0 (acc.length+1) 1
theorem sp_grow(acc:List (List UInt8))(cur:List UInt8)(h:acc.length≤1000):
 Does cfg (.appendM 1 16 (.c (mSp acc)) (.c (.sl .full [.str []]))) (hSp acc cur) (mSp (acc++[cur])) (hSp (acc++[cur]) []):=by
 have hh:=does_grow (cfg:=cfg) (es:=1) (b:=16) (k:=acc.length) (l:=strs (acc++[cur])) (v:=.str []) (sk:=.full) (by simp[strs]) (strs_el _) (strs_dataT _) rfl rfl (by simp[strs];omega)
 have e1:(strs (acc++[cur])).length=acc.length+1:=by simp[strs]
 have e2:strs (acc++[cur])++[AV.str []]=strs (acc++[cur]++[[]]):=by simp[strs]
 rw[e1,e2]at hh
 have e3:mSp (acc++[cur])=.msl (acc.length+1) 0 (acc.length+1+1) 1:=by simp[mSp]
 have e4:hSp (acc++[cur]) []=hM (acc.length+1) (strs (acc++[cur]++[[]])):=by simp[hSp]
 rw[e3,e4]
 exact hh
theorem sp_load(acc:List (List UInt8))(cur:List UInt8):Does cfg (.load false 1 (.c (.ptr acc.length acc.length))) (hSp acc cur) (.str cur) (hSp acc cur):=fun T=>by
 have:loadA false 1 (hSp acc cur) (.ptr acc.length acc.length)=some (.str cur):=by
  simp only[loadA,hSp,hM_at,strs_cells]
  rw[if_pos (by simp[strs])]
  simp[strs]
 simp only[opStep,ev,this]
theorem sp_store(acc:List (List UInt8))(cur x:List UInt8):Does cfg (.store 1 (.c (.ptr acc.length acc.length)) (.c (.str x))) (hSp acc cur) .undef (hSp acc x):=fun T=>by
 have:storeA 1 (hSp acc cur) (.ptr acc.length acc.length) (.str x)=some (hSp acc x):=by
  simp only[storeA,hSp,hM_at,strs_cells]
  rw[if_pos (by simp[strs,AV.cells,cellsN,cellOk])]
  have e:rowCells (strs (acc++[x]))=strs acc++[AV.str x]:=by rw[strs_cells];simp[strs]
  rw[hM,hM,e]
  simp[strs,AV.cells,paste,List.set_append]
 simp only[opStep,ev,this]
theorem sp_len(acc:List (List UInt8)):lenA false (mSp acc)=some (.int .i64 ((acc.length+1:Nat):Int)):=rfl
theorem sp_dec(acc:List (List UInt8))(h:acc.length≤1000):binA .sub (.int .i64 ((acc.length+1:Nat):Int)) (.int .i64 1)=some (.int .i64 (acc.length:Nat)):=dec_i (by omega)
theorem sp_idx(acc:List (List UInt8)):idxA 1 (mSp acc) (.int .i64 (acc.length:Nat))=some (.ptr acc.length acc.length):=by
 unfold mSp
 rw[idx_msl (Nat.lt_succ_self _)]
 simp
theorem sub_one{s post:List UInt8}{i:Nat}{b:UInt8}(h:s.drop i=b::post):sliceA 0 (.str s) (some (.int .i64 (i:Nat))) (some (.int .i64 ((i+1:Nat):Int))) none=some (.str [b]):=by
 have hlt:=drop_lt h
 rw[sstr_in (Nat.le_succ i) (by omega)]
 rw[List.drop_take,h]
 simp
theorem byte_ne{b c:UInt8}(h:¬b=c):((b.toNat:Nat):Int)≠((c.toNat:Nat):Int):=fun e=>h (UInt8.toNat_inj.1 (by omega))
theorem split_loop(s:List UInt8)(c:UInt8)(hl:s.length≤1000):∀(post:List UInt8)(i:Nat)(acc:List (List UInt8))(cur:List UInt8)(hd:s.drop i=post)(ha:acc.length≤i)(hc:cur.length≤i)(out:List (List UInt8))(ho:out=acc++(match parts c post with|[]=>[cur]|p::ps=>(cur++p)::ps))(T:Env)
 (hT:Has T [(0,.str s),(1,.int .u8 (c.toNat:Nat)),(5,mSp acc),(6,.int .i64 i)]),
 Goes cfg a80 k80_0 T (hSp acc cur) (IsOut (.sl .sh (strs out))):=by
 intro post
 induction post with
 |nil=>
  intro i acc cur hd ha hc out ho T hT
  have hge:=drop_ge hd
  have e:out=acc++[cur]:=by simpa[parts]using ho
  have hout:IsOut (.sl .sh (strs out)) (.ret (mSp acc),hSp acc cur):=⟨mSp acc,rfl,by
   rw[e]
   have:=out_hM (es:=1) (k:=acc.length) (l:=strs (acc++[cur])) (by simp[strs]) (strs_el _) (by decide) (strs_dataT _)
   have e1:(strs (acc++[cur])).length=acc.length+1:=by simp[strs]
   rw[e1]at this
   exact this⟩
  exact goG 60 _ hT (.len (show lenA true (.str s)=some (.int .i64 (↑s.length))from len_str _)<|.no (decide_eq_false (p:=(↑i:Int)<(↑s.length:Int)) (by omega))<|.fin ((.ret (.msl acc.length (0:Nat) (acc.length+(1:Nat)) (1:Nat)),{boxes:=List.replicate acc.length []++[rowCells (strs (acc++[cur]))],toks:=[],loops:=[]:Heap})) (by exact hout)) (by kernel_rfl)
 |cons b post ih=>
  intro i acc cur hd ha hc out ho T hT
  have hlt:=drop_lt hd
  by_cases hb:b=c
  ·subst hb
   have g:=sp_grow acc cur (by omega)
   have ih':=ih (i+1) (acc++[cur]) [] (drop_next hd) (by simp;omega) (by simp) out (by
    rw[ho]
    simp only[parts,if_true]
    cases hp:parts b post with
    |nil=>exact absurd hp (parts_ne _ _)
    |cons p ps=>simp)
   exact goG 60 _ hT (.len (show lenA true (.str s)=some (.int .i64 (↑s.length))from len_str _)<|.yes (decide_eq_true (p:=(↑i:Int)<(↑s.length:Int)) (by omega))<|.idxs (show idxsA (.str s) (.int .i64 ↑i)=some (.int .u8 (↑b.toNat))from idx_str hd)<|.yes (show((↑b.toNat:Int)==(↑b.toNat:Int))=true from(by simp))<|.effY (show Does cfg (.appendM (1:Nat) (16:Nat) (.c (mSp acc)) (.c (.sl .full [.str []]))) (hSp acc cur) (mSp (acc++[cur])) (hSp (acc++[cur]) [])from g)<|.bin (show binA .add (.int .i64 ↑i) (.int .i64 1)=some (.int .i64 (↑(i+1)))from inc_i (by omega))<|.cutQ k80_0 [(0,.str s),(1,.int .u8 (↑b.toNat)),(5,.msl (acc++[cur]).length (0:Nat) ((acc++[cur]).length+(1:Nat)) (1:Nat)),(6,.int .i64 (↑(i+1)))] ({boxes:=List.replicate (acc++[cur]).length []++[rowCells (strs (acc++[cur]++[[]]))],toks:=[],loops:=[]:Heap}) (fun T hT=>(ih' T hT))) (by kernel_rfl)
  ·have hs:=sub_one hd
   have hbn:=byte_ne hb
   have hadd:binA .add (.str cur) (.str [b])=some (.str (cur++[b])):=str_add (by simp;omega)
   have ih':=ih (i+1) acc (cur++[b]) (drop_next hd) (by omega) (by simp;omega) out (by
    rw[ho]
    simp only[parts,if_neg hb]
    cases hp:parts c post with
    |nil=>exact absurd hp (parts_ne _ _)
    |cons p ps=>simp)
   exact goG 60 _ hT (.len (show lenA true (.str s)=some (.int .i64 (↑s.length))from len_str _)<|.yes (decide_eq_true (p:=(↑i:Int)<(↑s.length:Int)) (by omega))<|.idxs (show idxsA (.str s) (.int .i64 ↑i)=some (.int .u8 (↑b.toNat))from idx_str hd)<|.no (show((↑b.toNat:Int)==(↑c.toNat:Int))=false from Bool.eq_false_iff.2 (by simpa using hbn))<|.len (show lenA false (.msl acc.length (0:Nat) (acc.length+(1:Nat)) (1:Nat))=some (.int .i64 (↑(acc.length+(1:Nat)):Int))from sp_len _)<|.bin (show binA .sub (.int .i64 (↑(acc.length+(1:Nat)):Int)) (.int .i64 1)=some (.int .i64 (↑acc.length))from sp_dec _ (by omega))<|.len (show lenA false (.msl acc.length (0:Nat) (acc.length+(1:Nat)) (1:Nat))=some (.int .i64 (↑(acc.length+(1:Nat)):Int))from sp_len _)<|.bin (show binA .sub (.int .i64 (↑(acc.length+(1:Nat)):Int)) (.int .i64 1)=some (.int .i64 (↑acc.length))from sp_dec _ (by omega))<|.idx (show idxA 1 (.msl acc.length (0:Nat) (acc.length+(1:Nat)) (1:Nat)) (.int .i64 (↑acc.length))=some (.ptr acc.length acc.length)from sp_idx _)<|.effY (show Does cfg (.load false (1:Nat) (.c (.ptr acc.length acc.length))) (hSp acc cur) (.str cur) (hSp acc cur)from sp_load _ _)<|.bin (show binA .add (.int .i64 ↑i) (.int .i64 1)=some (.int .i64 (↑(i+1)))from inc_i (by omega))<|.slice (show sliceA (0:Nat) (.str s) (some (.int .i64 ↑i)) (some (.int .i64 (↑(i+1)))) none=some (.str [b])from hs)<|.bin (show binA .add (.str cur) (.str [b])=some (.str (cur++[b]))from hadd)<|.idx (show idxA 1 (.msl acc.length (0:Nat) (acc.length+(1:Nat)) (1:Nat)) (.int .i64 (↑acc.length))=some (.ptr acc.length acc.length)from sp_idx _)<|.effY (show Does cfg (.store (1:Nat) (.c (.ptr acc.length acc.length)) (.c (.str (cur++[b])))) (hSp acc cur) .undef (hSp acc (cur++[b]))from sp_store _ _ _)<|.bin (show binA .add (.int .i64 ↑i) (.int .i64 1)=some (.int .i64 (↑(i+1)))from inc_i (by omega))<|.cutQ k80_0 [(0,.str s),(1,.int .u8 (↑c.toNat)),(5,.msl acc.length (0:Nat) (acc.length+(1:Nat)) (1:Nat)),(6,.int .i64 (↑(i+1)))] ({boxes:=List.replicate acc.length []++[rowCells (strs (acc++[cur++[b]]))],toks:=[],loops:=[]:Heap}) (fun T hT=>(ih' T hT))) (by kernel_rfl)
theorem split80(s:List UInt8)(c:UInt8)(hl:s.length≤1000):GivesF cfg 80 [.str s,.int .u8 (c.toNat:Nat)] (.sl .sh (strs (parts c s))):=by
 refine GivesF.run (l80 _ _) ?_
 have h:=split_loop s c hl s 0 [] [] rfl (Nat.le_refl _) (Nat.le_refl _) (parts c s) (by
  cases hp:parts c s with
  |nil=>exact absurd hp (parts_ne _ _)
  |cons p ps=>simp)
 exact goG 60 [] trivial (.cutQ k80_0 [(0,.str s),(1,.int .u8 (↑c.toNat)),(5,.msl (0:Nat) (0:Nat) (1:Nat) (1:Nat)),(6,.int .i64 0)] ({boxes:=[[.str []]],toks:=[],loops:=[]:Heap}) (fun T hT=>(h T hT))) (by kernel_rfl)
end Go.Aa.T
set_option linter.unusedVariables false
set_option linter.unusedSimpArgs false
set_option maxRecDepth 100000
namespace Go.Aa.T
open Go.Aa Go.Proofs
theorem split_does{y:List UInt8}{ls:List (List UInt8)}(c:UInt8)(hl:y.length≤1000)(e:parts c y=ls)(H:Heap):Does cfg (.call (.c (.func 80 [])) [.c (.str y),.c (.int .u8 (c.toNat:Nat))]) H (.sl .sh (ls.map .str)) H:=by
 subst e
 exact does_callF (split80 y c hl) rfl rfl H
theorem parts_len{c:UInt8}:∀(s:List UInt8),(parts c s).length≤s.length+1∧∀p∈parts c s,p.length≤s.length
 |[]=>by simp[parts]
 |b::r=>by
  obtain⟨h1,h2⟩:=parts_len r
  unfold parts
  split
  ·refine⟨by simp;omega,fun p hp=> ?_⟩
   simp only[List.mem_cons]at hp
   rcases hp with rfl|hp
   ·simp
   ·have:=h2 p hp;simp;omega
  ·cases hp:parts c r with
   |nil=>exact absurd hp (parts_ne _ _)
   |cons x xs=>
    rw[hp]at h1 h2
    simp only[List.length_cons]at h1
    refine⟨by simp;omega,fun p hq=> ?_⟩
    simp only[List.mem_cons]at hq
    rcases hq with rfl|hq
    ·have:=h2 x (by simp);simp;omega
    ·have:=h2 p (by simp[hq]);simp;omega
end Go.Aa.T
set_option linter.unusedVariables false
set_option linter.unusedSimpArgs false
set_option maxRecDepth 100000
namespace Go.Aa.T
open Go.Aa Go.Proofs
def digs:List UInt8:=[48,49,50,51,52,53,54,55,56,57]
theorem digs_ch(c:UInt8):digs.contains c=isDig c:=by
 have h:∀n,n<256→digs.contains (UInt8.ofNat n)=isDig (UInt8.ofNat n):=by decide
 have:=h c.toNat c.toNat_lt
 rwa [UInt8.ofNat_toNat]at this
theorem trim_nilP{cs:List UInt8}{q:UInt8→Bool}(hq:∀c,cs.contains c=q c)(s:List UInt8):Lib.trimS s cs=[]↔s.all q=true:=by
 have hp:(fun c=>cs.contains c)=q:=funext hq
 unfold Lib.trimS Lib.trimLeftS Lib.trimRightS
 rw[hp,dropWhile_nil,List.all_reverse]
 constructor
 ·intro h
  have e:=List.takeWhile_append_dropWhile (p:=q) (l:=s.reverse)
  have:s.reverse.all q=true:=by
   rw[←e,List.all_append,h,Bool.and_true]
   exact List.all_takeWhile
  rwa [List.all_reverse]at this
 ·intro h
  have:s.reverse.dropWhile q=[]:=dropWhile_nil.2 (by rwa [List.all_reverse])
  rw[this];rfl
theorem trim_digs(s:List UInt8)(h:s.length≤9223372036854775807):Gives cfg 83 [.str s,.str digs] (.str (Lib.trimS s digs)):=by
 refine Gives.of (H':=Heap.nil) ?_
 rw[lim_ext (g:=trimE) rfl rfl]
 have:trimE [.str s,.str digs] Heap.nil=some (.str (Lib.trimS s digs),Heap.nil):=if_pos ⟨h,by decide,by decide⟩
 rw[this];rfl
def numA(s:List UInt8):Int×Int:=if digB s=true then(if valN 0 s<9223372036854775808 then((valN 0 s:Int),0)else(0,5))else(0,2)
theorem parse_ok(s:List UInt8)(hl:s.length≤1000){v:Int}(h:Lib.parseIntB 64 s=.ok v):Gives cfg 108 [.str s,.int .i64 10,.int .i64 64] (.tuple [.int .i64 v,.nilIface]):=by
 refine Gives.of (H':=Heap.nil) ?_
 rw[lim_ext (g:=parseE 188) rfl rfl]
 have:parseE 188 [.str s,.int .i64 10,.int .i64 64] Heap.nil=some (.tuple [.int .i64 v,.nilIface],Heap.nil):=by
  simp only[parseE]
  rw[if_pos ⟨trivial,trivial,trivial,trivial,by omega⟩,h]
 rw[this];rfl
theorem parse_range(s:List UInt8)(hl:s.length≤1000)(h:Lib.parseIntB 64 s=.range):Does cfg (.call (.c (.func 108 [])) [.c (.str s),.c (.int .i64 10),.c (.int .i64 64)]) Heap.nil (.tuple [.int .i64 (Lib.intSat 64 s),.iface 188 .undef]) Heap.nil:=by
 suffices hh:lim cfg (.fn 108) [.str s,.int .i64 10,.int .i64 64] Heap.nil=some (.ret (.tuple [.int .i64 (Lib.intSat 64 s),.iface 188 .undef]),Heap.nil)from does_callN (xs:=[.str s,.int .i64 10,.int .i64 64]) hh rfl hh rfl rfl
 rw[lim_ext (g:=parseE 188) rfl rfl]
 have:parseE 188 [.str s,.int .i64 10,.int .i64 64] Heap.nil=some (.tuple [.int .i64 (Lib.intSat 64 s),.iface 188 .undef],Heap.nil):=by
  simp only[parseE]
  rw[if_pos ⟨trivial,trivial,trivial,trivial,by omega⟩,h]
 rw[this];rfl
theorem digB_cons(c:UInt8)(r:List UInt8):digB (c::r)=((c::r).all isDig&&(!(c==48)||r.isEmpty)):=by
 cases r with
 |nil=>simp[digB]
 |cons d r=>simp[digB];rfl
theorem num_any(s:List UInt8)(hl:s.length≤1000):Gives cfg 78 [.str s] (.tuple [.int .i64 (numA s).1,.int .i64 (numA s).2]):=by
 refine Gives.run (l78 _ _) ?_
 have ht:=trim_nilP digs_ch s
 have htr:=trim_digs s (by omega)
 by_cases hs:s=[]
 ·subst hs
  exact goG 60 [] trivial (.tt<|.tt<|.tt<|.fin ((.ret (.tuple [.int .i64 0,.int .i64 2]),{boxes:=[],toks:=[],loops:=[]:Heap})) rfl) (by kernel_rfl)
 ·obtain⟨c,r,rfl⟩:=List.exists_cons_of_ne_nil hs
  have hx:idxsA (.str (c::r)) (.int .i64 0)=some (.int .u8 c.toNat):=rfl
  have hz:c=48↔((c.toNat:Nat):Int)=48:=by
   constructor
   ·rintro rfl;rfl
   ·intro h;exact UInt8.toNat_inj.1 (by have:c.toNat=48:=by omega
                                        rw[this];rfl)
  by_cases hd:digB (c::r)=true
  ·have hda:(c::r).all isDig=true:=by rw[digB_cons]at hd;simp only[Bool.and_eq_true]at hd;exact hd.1
   have hp:=pi_dig hs hda
   have ha:=ht.2 hda
   have hd':=hd
   rw[digB_cons,Bool.and_eq_true]at hd'
   have hd2:=hd'.2
   by_cases hv:valN 0 (c::r)<9223372036854775808
   ·rw[if_pos hv]at hp
    have p1:=parse_ok _ hl hp
    have e:numA (c::r)=((valN 0 (c::r):Int),0):=by simp only[numA,hd,if_true,hv]
    rw[e]
    generalize valN 0 (c::r)=v at p1 hv
    rw[ha]at htr
    exact let ζ1:List AV:=[.str (c::r),.int .i64 10,.int .i64 64];let ζ2:Heap:={boxes:=[],toks:=[],loops:=[]:Heap};let ζ3:List AV:=[.int .i64 ↑v,.int .i64 0];goG 90 [] trivial (.ff<|.callI htr<|.ff<|.idxs (show idxsA (.str (c::r)) (.int .i64 0)=some (.int .u8 (↑c.toNat))from hx)<|.split (((↑c.toNat:Int)==(48:Int))=true) (fun h1=>.yes (show((↑c.toNat:Int)==(48:Int))=true from h1)<|.no (show(!c::r==[(48:UInt8)])=false from by have hh:(c::r==[(48:UInt8)])=true:=(by simp at hd2⊢;grind);simp[hh])<|.callK (ζ1) (.tuple [.int .i64 ↑v,.nilIface]) (show Gives cfg (108:FuncId) ζ1 (.tuple [.int .i64 ↑v,.nilIface])from p1)<|.ff<|.fin ((.ret (.tuple ζ3),ζ2)) rfl) (fun h1=>.no (show((↑c.toNat:Int)==(48:Int))=false from Bool.eq_false_iff.2 h1)<|.ff<|.callK (ζ1) (.tuple [.int .i64 ↑v,.nilIface]) (show Gives cfg (108:FuncId) ζ1 (.tuple [.int .i64 ↑v,.nilIface])from p1)<|.ff<|.fin ((.ret (.tuple ζ3),ζ2)) rfl)) (by kernel_rfl)
   ·rw[if_neg hv]at hp
    have p1:=parse_range _ hl hp
    have e:numA (c::r)=(0,5):=by simp only[numA,hd,if_true,hv,if_false]
    rw[e]
    rw[ha]at htr
    exact let ζ1:List AV:=[.int .i64 (Lib.intSat (64:Nat) (c::r)),.iface (188:TypeId) .undef];let ζ2:Heap:={boxes:=[],toks:=[],loops:=[]:Heap};goG 90 [] trivial (.ff<|.callI htr<|.ff<|.idxs (show idxsA (.str (c::r)) (.int .i64 0)=some (.int .u8 (↑c.toNat))from hx)<|.split (((↑c.toNat:Int)==(48:Int))=true) (fun h1=>.yes (show((↑c.toNat:Int)==(48:Int))=true from h1)<|.no (show(!c::r==[(48:UInt8)])=false from by have hh:(c::r==[(48:UInt8)])=true:=(by simp at hd2⊢;grind);simp[hh])<|.effY (show Does cfg (.call (.c (.func (108:FuncId) [])) [.c (.str (c::r)),.c (.int .i64 10),.c (.int .i64 64)]) Heap.nil (.tuple ζ1) Heap.nil from p1)<|.tt<|.fin ((.ret (.tuple [.int .i64 0,.int .i64 5]),ζ2)) rfl) (fun h1=>.no (show((↑c.toNat:Int)==(48:Int))=false from Bool.eq_false_iff.2 h1)<|.ff<|.effY (show Does cfg (.call (.c (.func (108:FuncId) [])) [.c (.str (c::r)),.c (.int .i64 10),.c (.int .i64 64)]) Heap.nil (.tuple ζ1) Heap.nil from p1)<|.tt<|.fin ((.ret (.tuple [.int .i64 0,.int .i64 5]),ζ2)) rfl)) (by kernel_rfl)
  ·have e:numA (c::r)=(0,2):=by simp only[numA,hd,if_false,Bool.false_eq_true]
   rw[e]
   rw[digB_cons]at hd
   by_cases hda:(c::r).all isDig=true
   ·have ha:=ht.2 hda
    rw[ha]at htr
    rw[hda,Bool.true_and]at hd
    exact goG 90 [] trivial (.ff<|.callI htr<|.ff<|.idxs (show idxsA (.str (c::r)) (.int .i64 0)=some (.int .u8 (↑c.toNat))from hx)<|.yes (show((↑c.toNat:Int)==(48:Int))=true from(by simp at hd;grind))<|.yes (show(!c::r==[(48:UInt8)])=true from by have hh:¬((c::r==[(48:UInt8)])=true):=(by simp at hd;grind);simp[hh])<|.fin ((.ret (.tuple [.int .i64 0,.int .i64 2]),{boxes:=[],toks:=[],loops:=[]:Heap})) rfl) (by kernel_rfl)
   ·have ha:¬Lib.trimS (c::r) digs=[]:=fun h=>hda (ht.1 h)
    exact goG 90 [] trivial (.ff<|.callI htr<|.yes (show(!Lib.trimS (c::r) digs==[])=true from by have hh:¬((Lib.trimS (c::r) digs==[])=true):=(by simpa using ha);simp[hh])<|.tt<|.fin ((.ret (.tuple [.int .i64 0,.int .i64 2]),{boxes:=[],toks:=[],loops:=[]:Heap})) rfl) (by kernel_rfl)
theorem digits_loop(s:List UInt8)(hn:s.length≤1000):∀(post:List UInt8)(i:Nat)(hd:s.drop i=post)(T:Env)(hT:Has T [(0,.str s),(3,.int .i64 i)]),
 Goes cfg a81 k81_0 T Heap.nil (IsRet (.bool (post.all isDig))):=by
 intro post
 induction post with
 |nil=>
  intro i hd T hT
  have hge:=drop_ge hd
  exact goG 60 _ hT (.len (show lenA true (.str s)=some (.int .i64 (↑s.length))from len_str _)<|.no (decide_eq_false (p:=(↑i:Int)<(↑s.length:Int)) (by omega))<|.fin ((.ret (.bool true),{boxes:=[],toks:=[],loops:=[]:Heap})) rfl) (by kernel_rfl)
 |cons x post ih=>
  intro i hd T hT
  have hlt:=drop_lt hd
  have hnx:=drop_next hd
  exact let ζ1:Heap:={boxes:=[],toks:=[],loops:=[]:Heap};goG 60 _ hT (.len (show lenA true (.str s)=some (.int .i64 (↑s.length))from len_str _)<|.yes (decide_eq_true (p:=(↑i:Int)<(↑s.length:Int)) (by omega))<|.idxs (show idxsA (.str s) (.int .i64 ↑i)=some (.int .u8 (↑x.toNat))from idx_str hd)<|.split ((↑x.toNat:Int)<(48:Int)) (fun h1=>.yes (decide_eq_true (p:=(↑x.toNat:Int)<(48:Int)) h1)<|.tt<|.fin ((.ret (.bool false),ζ1)) (by simp only[IsRet];grind[isDig])) (fun h1=>.no (decide_eq_false (p:=(↑x.toNat:Int)<(48:Int)) h1)<|.idxs (show idxsA (.str s) (.int .i64 ↑i)=some (.int .u8 (↑x.toNat))from idx_str hd)<|.split ((57:Int)<(↑x.toNat:Int)) (fun h2=>.yes (decide_eq_true (p:=(57:Int)<(↑x.toNat:Int)) h2)<|.fin ((.ret (.bool false),ζ1)) (by simp only[IsRet];grind[isDig])) (fun h2=>.no (decide_eq_false (p:=(57:Int)<(↑x.toNat:Int)) h2)<|.bin (show binA .add (.int .i64 ↑i) (.int .i64 1)=some (.int .i64 (↑(i+1)))from inc_i (by omega))<|.cutQ k81_0 [(0,.str s),(3,.int .i64 (↑(i+1)))] (ζ1) (fun T hT=>(ih (i+(1:Nat)) hnx T hT).to (by grind[isDig]))))) (by kernel_rfl)
theorem digits_ref(s:List UInt8)(hn:s.length≤1000):Gives cfg 81 [.str s] (.bool (digB s)):=by
 refine Gives.run (l81 _ _) ?_
 have h:=digits_loop s hn s 0 rfl
 by_cases hs:s=[]
 ·subst hs
  exact goG 60 [] trivial (.tt<|.tt<|.fin ((.ret (.bool false),{boxes:=[],toks:=[],loops:=[]:Heap})) rfl) (by kernel_rfl)
 ·obtain⟨c,r,rfl⟩:=List.exists_cons_of_ne_nil hs
  have hx:idxsA (.str (c::r)) (.int .i64 0)=some (.int .u8 c.toNat):=rfl
  have hz:(c==48)=(((c.toNat:Nat):Int)==48):=by
   rw[Bool.eq_iff_iff,beq_iff_eq,beq_iff_eq]
   constructor
   ·rintro rfl;rfl
   ·intro h;exact UInt8.toNat_inj.1 (by have:c.toNat=48:=by omega
                                        rw[this];rfl)
  rw[digB_cons,hz]
  cases r with
  |nil=>exact let ζ1:Heap:={boxes:=[],toks:=[],loops:=[]:Heap};goG 60 [] trivial (.ff<|.idxs (show idxsA (.str [c]) (.int .i64 0)=some (.int .u8 (↑c.toNat))from hx)<|.split (((↑c.toNat:Int)==(48:Int))=true) (fun h1=>.yes (show((↑c.toNat:Int)==(48:Int))=true from h1)<|.len (show lenA true (.str [c])=some (.int .i64 (↑[c].length:Int))from len_str _)<|.ff<|.cutQ k81_0 [(0,.str [c]),(3,.int .i64 0)] (ζ1) (fun T hT=>(h T hT).to (by simp+zetaDelta [IsRet]))) (fun h1=>.no (show((↑c.toNat:Int)==(48:Int))=false from Bool.eq_false_iff.2 h1)<|.ff<|.cutQ k81_0 [(0,.str [c]),(3,.int .i64 0)] (ζ1) (fun T hT=>(h T hT).to (by simp+zetaDelta [IsRet])))) (by kernel_rfl)
  |cons d r=>
   exact let ζ1:Heap:={boxes:=[],toks:=[],loops:=[]:Heap};goG 60 [] trivial (.ff<|.idxs (show idxsA (.str (c::d::r)) (.int .i64 0)=some (.int .u8 (↑c.toNat))from hx)<|.split (((↑c.toNat:Int)==(48:Int))=true) (fun h1=>.yes (show((↑c.toNat:Int)==(48:Int))=true from h1)<|.len (show lenA true (.str (c::d::r))=some (.int .i64 (↑(c::d::r).length:Int))from len_str _)<|.split ((1:Int)<(↑(c::d::r).length:Int)) (fun h2=>.yes (decide_eq_true (p:=(1:Int)<(↑(c::d::r).length:Int)) h2)<|.fin ((.ret (.bool false),ζ1)) (by simp only[IsRet];grind)) (fun h2=>.no (decide_eq_false (p:=(1:Int)<(↑(c::d::r).length:Int)) h2)<|.cutQ k81_0 [(0,.str (c::d::r)),(3,.int .i64 0)] (ζ1) (fun T hT=>(h T hT).to (by grind)))) (fun h1=>.no (show((↑c.toNat:Int)==(48:Int))=false from Bool.eq_false_iff.2 h1)<|.ff<|.cutQ k81_0 [(0,.str (c::d::r)),(3,.int .i64 0)] (ζ1) (fun T hT=>(h T hT).to (by grind)))) (by kernel_rfl)
theorem sub48{c:UInt8}(h:isDig c=true):binA .sub (.int .u8 c.toNat) (.int .u8 48)=some (.int .u8 (dval c:Nat)):=by
 have hc:48≤c.toNat∧c.toNat≤57:=by simpa[isDig]using h
 have e:IntKind.u8.wrap ((c.toNat:Int)-48)=((dval c:Nat):Int):=by
  have e2:((dval c:Nat):Int)=(c.toNat:Int)-48:=by
   show((c.toNat-48:Nat):Int)=_
   omega
  rw[e2]
  simp only[IntKind.wrap,IntKind.bits,IntKind.signed,Bool.false_and,Bool.false_eq_true,if_false]
  omega
 simp[binA,intBin,e]
theorem number_loop(s:List UInt8)(hn:s.length≤1000)(hd0:s.all isDig=true):∀(post:List UInt8)(i acc:Nat)(hd:s.drop i=post)(ha:acc≤9223372036854775807)(hv:valN 0 s=valN acc post)(T:Env)(hT:Has T [(0,.str s),(1,.int .i64 9223372036854775807),(6,.int .i64 acc),(7,.int .i64 i)]),
 Goes cfg a82 k82_0 T Heap.nil (IsRet (if valN 0 s<9223372036854775808 then .tuple [.int .i64 (valN 0 s:Nat),.bool true]else .tuple [.int .i64 0,.bool false])):=by
 intro post
 induction post with
 |nil=>
  intro i acc hd ha hv T hT
  have hge:=drop_ge hd
  rw[valN_nil]at hv
  rw[hv,if_pos (by omega)]
  exact goG 60 _ hT (.len (show lenA true (.str s)=some (.int .i64 (↑s.length))from len_str _)<|.no (decide_eq_false (p:=(↑i:Int)<(↑s.length:Int)) (by omega))<|.fin ((.ret (.tuple [.int .i64 ↑acc,.bool (decide ((↑acc:Int)≤(9223372036854775807:Int)))]),{boxes:=[],toks:=[],loops:=[]:Heap})) (by simp[IsRet];omega)) (by kernel_rfl)
 |cons x post ih=>
  intro i acc hd ha hv T hT
  have hlt:=drop_lt hd
  have hnx:=drop_next hd
  have hx:isDig x=true:=List.all_eq_true.1 hd0 x (drop_mem hd)
  have hdv:=(dig_back hx).2
  have q1:=sub48 hx
  have q2:convA (.int .i64) (.int .u8 (dval x:Nat))=some (.int .i64 ((dval x:Nat):Int)):=conv_i64 (by omega)
  rw[valN_cons]at hv
  have hge2:=valN_ge post (acc*10+dval x)
  rw[←hv]at hge2
  generalize dval x=d at*
  have q3:binA .sub (.int .i64 9223372036854775807) (.int .i64 (d:Nat))=some (.int .i64 ((9223372036854775807-d:Nat):Int)):=by
   rw[subI (by omega) (by omega)]
   congr 2
   omega
  have q4:=quo10 (9223372036854775807-d) (by omega)
  by_cases hb:acc≤(9223372036854775807-d)/10
  ·have hm:acc*10+d≤9223372036854775807:=by omega
   have q5:binA .mul (.int .i64 10) (.int .i64 (acc:Nat))=some (.int .i64 ((10*acc:Nat):Int)):=by
    rw[mulI (by omega) (by omega)];rfl
   have q6:binA .add (.int .i64 ((10*acc:Nat):Int)) (.int .i64 (d:Nat))=some (.int .i64 ((acc*10+d:Nat):Int)):=by
    rw[addI (by omega) (by omega)]
    congr 2
    omega
   have ih':=ih (i+1) (acc*10+d) hnx hm hv
   generalize(9223372036854775807-d)/10=z at*
   exact goG 60 _ hT (.len (show lenA true (.str s)=some (.int .i64 (↑s.length))from len_str _)<|.yes (decide_eq_true (p:=(↑i:Int)<(↑s.length:Int)) (by omega))<|.idxs (show idxsA (.str s) (.int .i64 ↑i)=some (.int .u8 (↑x.toNat))from idx_str hd)<|.bin (show binA .sub (.int .u8 (↑x.toNat)) (.int .u8 48)=some (.int .u8 ↑d)from q1)<|.conv (show convA (CV.int IntKind.i64) (.int .u8 ↑d)=some (.int .i64 ↑d)from q2)<|.bin (show binA .sub (.int .i64 9223372036854775807) (.int .i64 ↑d)=some (.int .i64 (↑((9223372036854775807:Nat)-d):Int))from q3)<|.bin (show binA .quo (.int .i64 (↑((9223372036854775807:Nat)-d):Int)) (.int .i64 10)=some (.int .i64 ↑z)from q4)<|.no (decide_eq_false (p:=(↑z:Int)<(↑acc:Int)) (by omega))<|.bin (show binA .mul (.int .i64 10) (.int .i64 ↑acc)=some (.int .i64 (↑((10:Nat)*acc):Int))from q5)<|.bin (show binA .add (.int .i64 (↑((10:Nat)*acc):Int)) (.int .i64 ↑d)=some (.int .i64 (↑(acc*(10:Nat)+d):Int))from q6)<|.bin (show binA .add (.int .i64 ↑i) (.int .i64 1)=some (.int .i64 (↑(i+1)))from inc_i (by omega))<|.cutQ k82_0 [(0,.str s),(1,.int .i64 9223372036854775807),(6,.int .i64 (↑(acc*(10:Nat)+d):Int)),(7,.int .i64 (↑(i+1)))] ({boxes:=[],toks:=[],loops:=[]:Heap}) (fun T hT=>(ih' T hT))) (by kernel_rfl)
  ·rw[if_neg (by omega)]
   generalize(9223372036854775807-d)/10=z at*
   exact goG 60 _ hT (.len (show lenA true (.str s)=some (.int .i64 (↑s.length))from len_str _)<|.yes (decide_eq_true (p:=(↑i:Int)<(↑s.length:Int)) (by omega))<|.idxs (show idxsA (.str s) (.int .i64 ↑i)=some (.int .u8 (↑x.toNat))from idx_str hd)<|.bin (show binA .sub (.int .u8 (↑x.toNat)) (.int .u8 48)=some (.int .u8 ↑d)from q1)<|.conv (show convA (CV.int IntKind.i64) (.int .u8 ↑d)=some (.int .i64 ↑d)from q2)<|.bin (show binA .sub (.int .i64 9223372036854775807) (.int .i64 ↑d)=some (.int .i64 (↑((9223372036854775807:Nat)-d):Int))from q3)<|.bin (show binA .quo (.int .i64 (↑((9223372036854775807:Nat)-d):Int)) (.int .i64 10)=some (.int .i64 ↑z)from q4)<|.yes (decide_eq_true (p:=(↑z:Int)<(↑acc:Int)) (by omega))<|.fin ((.ret (.tuple [.int .i64 0,.bool false]),{boxes:=[],toks:=[],loops:=[]:Heap})) rfl) (by kernel_rfl)
theorem number_ref(s:List UInt8)(hn:s.length≤1000)(hd0:s.all isDig=true):Gives cfg 82 [.str s,.int .i64 9223372036854775807] (if valN 0 s<9223372036854775808 then .tuple [.int .i64 (valN 0 s:Nat),.bool true]else .tuple [.int .i64 0,.bool false]):=by
 refine Gives.run (l82 _ _) ?_
 have h:=number_loop s hn hd0 s 0 0 rfl (by omega) rfl
 exact goG 60 [] trivial (.cutQ k82_0 [(0,.str s),(1,.int .i64 9223372036854775807),(6,.int .i64 0),(7,.int .i64 0)] ({boxes:=[],toks:=[],loops:=[]:Heap}) (fun T hT=>(h T hT))) (by kernel_rfl)
end Go.Aa.T
set_option linter.unusedVariables false
set_option linter.unusedSimpArgs false
set_option maxRecDepth 100000
namespace Go.Aa.T
open Go.Aa Go.Proofs
def goodA(x:Amount):Bool:=isName x.name&&decide (0<x.n)
theorem ckVl_good(l:List Amount):∀(post:List Amount)(i:Nat),ckVl l i post=0→∀x∈post,goodA x=true
 |[],_,_=>by simp
 |x::post,i,h=>by
  unfold ckVl at h
  split at h
  ·rename_i hg
   split at h
   ·cases h
   ·rename_i hn
    split at h
    ·cases h
    ·intro y hy
     rcases List.mem_cons.1 hy with rfl|hy
     ·simp only[goodA,Bool.and_eq_true,decide_eq_true_eq];exact⟨hg,by omega⟩
     ·exact ckVl_good l post _ h y hy
  ·cases h
theorem ckV_good{l:List Amount}(h:ckV l=0):∀x∈l,goodA x=true:=by
 unfold ckV at h
 split at h
 ·exact ckVl_good l l 0 h
 ·cases h
theorem dig_no{s:List UInt8}(h:s.all isDig=true){c:UInt8}(hc:isDig c=false):c∉s:=fun hm=>by
 have:=List.all_eq_true.1 h c hm
 rw[hc]at this;cases this
theorem seq0Taint(s:List UInt8):∃v0 H0,lim cfg (.fn 76) [.str s,.str [44]] Heap.nil=some (.ret v0,H0)∧dataOut H0 v0=none:=by
 have h1:lim cfg (.fn 106) [.str s,.str [44],.int .i64 0] Heap.nil=some (.ret (.func 128 [.ptr 1 0,.ptr 0 0,.ptr 2 0]),⟨[[.str s],[.str [44]],[.int .i64 0]],[],[]⟩):=by
  rw[l106]
  exact go 60 [] trivial (.fin ((ARes.ret (AV.func (128:Nat) [AV.ptr 1 0,AV.ptr 0 0,AV.ptr 2 0]),{boxes:=[[AV.str s],[AV.str [(44:UInt8)]],[AV.int .i64 0]],toks:=[],loops:=[]:Heap})) rfl) (by kernel_rfl)
 have hd:Does cfg (.call (.c (.func 106 [])) [.c (.str s),.c (.str [44]),.c (.int .i64 0)]) Heap.nil (.func 128 [.ptr 1 0,.ptr 0 0,.ptr 2 0]) ⟨[[.str s],[.str [44]],[.int .i64 0]],[],[]⟩:=
  does_callN h1 rfl h1 rfl rfl
 refine⟨.func 128 [.ptr 1 0,.ptr 0 0,.ptr 2 0],⟨[[.str s],[.str [44]],[.int .i64 0]],[],[]⟩,?_,rfl⟩
 rw[l76]
 exact go 60 [] trivial (.effY (show Does cfg (AOp.call (Opd.c (AV.func (106:FuncId) [])) [Opd.c (AV.str s),Opd.c (AV.str [(44:UInt8)]),Opd.c (AV.int .i64 0)]) Heap.nil (AV.func (128:FuncId) [AV.ptr 1 0,AV.ptr 0 0,AV.ptr 2 0]) {boxes:=[[AV.str s],[AV.str [(44:UInt8)]],[AV.int .i64 0]],toks:=[],loops:=[]:Heap}from hd)<|.fin ((ARes.ret (AV.func (128:Nat) [AV.ptr 1 0,AV.ptr 0 0,AV.ptr 2 0]),{boxes:=[[AV.str s],[AV.str [(44:UInt8)]],[AV.int .i64 0]],toks:=[],loops:=[]:Heap})) rfl) (by kernel_rfl)
end Go.Aa.T
set_option linter.unusedVariables false
set_option linter.unusedSimpArgs false
set_option maxRecDepth 100000
namespace Go.Aa.T
open Go.Aa Go.Proofs
def formA(w:List UInt8):Option (List UInt8×List UInt8):=match cutAt 61 w with
 |some (k,v)=>if digB v=true then some (k,v)else none
 |none=>none
def allA:List (List UInt8)→Option (List (List UInt8×List UInt8))
 |[]=>some []
 |w::ws=>match formA w with
  |none=>none
  |some kv=>match allA ws with
   |none=>none
   |some l=>some (kv::l)
def amtA(kv:List UInt8×List UInt8):Amount:=⟨kv.1,(valN 0 kv.2:Int)⟩
def tooA(kv:List UInt8×List UInt8):Bool:=decide (9223372036854775808≤valN 0 kv.2)
def readA(s:List UInt8):List Amount×Int:=if s=[45]then([],0)else match allA (parts 44 s)with
 |none=>([],2)
 |some l=>if l.any tooA then([],5)else if ckV (l.map amtA)=0 then(l.map amtA,0)else([],ckV (l.map amtA))
theorem dig_all{v:List UInt8}(h:digB v=true):v.all isDig=true:=by
 simp only[digB,Bool.and_eq_true]at h;exact h.1.2
theorem form_some{w:List UInt8}{kv:List UInt8×List UInt8}(h:formA w=some kv):w=kv.1++61::kv.2∧parts 61 w=[kv.1,kv.2]∧digB kv.2=true:=by
 unfold formA at h
 split at h
 ·rename_i k v hc
  split at h
  ·rename_i hd
   cases h
   obtain⟨rfl,hm⟩:=cutAt_some hc
   have h2:(61:UInt8)∉v:=dig_no (dig_all hd) rfl
   exact⟨rfl,by rw[parts_some hm,parts_none h2],hd⟩
  ·cases h
 ·cases h
theorem form_none{w:List UInt8}(h:formA w=none):(parts 61 w).length≠2∨∃a b,parts 61 w=[a,b]∧digB b=false∧b.length≤w.length:=by
 unfold formA at h
 split at h
 ·rename_i k v hc
  split at h
  ·cases h
  ·rename_i hd
   obtain⟨rfl,hm⟩:=cutAt_some hc
   rw[parts_some hm]
   by_cases hv:(61:UInt8)∈v
   ·left
    cases hcv:cutAt 61 v with
    |none=>exact absurd hv (cutAt_none hcv)
    |some p=>
     obtain⟨a,b⟩:=p
     obtain⟨rfl,hm2⟩:=cutAt_some hcv
     rw[parts_some hm2]
     have:=parts_ne 61 b
     cases hp:parts 61 b with
     |nil=>exact absurd hp this
     |cons x xs=>simp
   ·right
    exact⟨k,v,by rw[parts_none hv],by simpa using hd,by simp;omega⟩
 ·rename_i hc
  left
  rw[parts_none (cutAt_none hc)]
  simp
def pairV(kv:List UInt8×List UInt8):AV:=.sl .sh [.str kv.1,.str kv.2]
theorem pairV_len{l:List (List UInt8×List UInt8)}:lenOk 1 (l.map pairV)=true:=lenOk_map fun _=>rfl
theorem read1_loop(ps:List (List UInt8))(hn:ps.length≤1001)(hl:∀p∈ps,p.length≤1000){R:ARes×Heap→Prop}(hbad:allA ps=none→∀H,R (.ret (.tuple [.sl .full [],.int .i64 2]),H))
 (hok:∀l,allA ps=some l→∀T,Has T [(5,rowF pairV l),(8,.sl .full []),(9,.int .i64 ((0:Nat):Int))]→Goes cfg a33 k33_1 T ⟨[],tkR pairV l,[]⟩ R):∀(post:List (List UInt8))(i:Nat)(acc:List (List UInt8×List UInt8))(hd:ps.drop i=post)(ha:acc.length=i)(hall:allA ps=(allA post).map (acc++·))(T:Env)
 (hT:Has T [(4,.sl .sh (strs ps)),(5,rowF pairV acc),(6,.int .i64 i)]),
 Goes cfg a33 k33_0 T ⟨[],tkR pairV acc,[]⟩ R:=by
 intro post
 induction post with
 |nil=>
  intro i acc hd ha hall T hT
  have hge:=drop_ge hd
  have e:allA ps=some acc:=by rw[hall];simp[allA]
  have hk:=hok acc e
  have hlen:lenA false (.sl .sh (strs ps))=some (.int .i64 ps.length):=by simp[lenA,strs]
  exact goG 60 _ hT (.len (show lenA false (.sl .sh (strs ps))=some (.int .i64 (↑ps.length))from hlen)<|.no (decide_eq_false (p:=(↑i:Int)<(↑ps.length:Int)) (by omega))<|.cutQ k33_1 [(5,.sl (skF acc) (acc.map pairV)),(8,.sl .full []),(9,.int .i64 0)] ({boxes:=[],toks:=tkR pairV acc,loops:=[]:Heap}) (fun T hT=>(hk T hT))) (by kernel_rfl)
 |cons w post ih=>
  intro i acc hd ha hall T hT
  have hlt:=drop_lt hd
  have hnx:=drop_next hd
  have hw:=hl w (drop_mem hd)
  have hlen:lenA false (.sl .sh (strs ps))=some (.int .i64 ps.length):=by simp[lenA,strs]
  have hix:idxA 1 (.sl .sh (strs ps)) (.int .i64 (i:Nat))=some (.ref [.str w]):=idx_row (f:=AV.str) hd rfl
  cases hf:formA w with
  |some kv=>
   obtain⟨e1,e2,e3⟩:=form_some hf
   have hall2:allA ps=(allA post).map ((acc++[kv])++·):=by
    rw[hall]
    simp only[allA,hf]
    cases allA post<;>simp
   have ih':=ih (i+1) (acc++[kv]) hnx (by simp;omega) hall2
   have sp:=split_does (H:=⟨[],tkR pairV acc,[]⟩) 61 hw e2
   have sp':Does cfg (.call (.c (.func 80 [])) [.c (.str w),.c (.int .u8 61)]) ⟨[],tkR pairV acc,[]⟩ (pairV kv) ⟨[],tkR pairV acc,[]⟩:=sp
   have dg:=digits_ref kv.2 (by rw[e1]at hw;simp at hw;omega)
   rw[e3]at dg
   have l2:lenA false (pairV kv)=some (.int .i64 2):=rfl
   have x2:idxA 1 (pairV kv) (.int .i64 1)=some (.ref [.str kv.2]):=rfl
   exact let ζ1:Heap:={boxes:=[],toks:=tkR pairV acc,loops:=[]:Heap};let ζ2:Heap:={boxes:=[],toks:=tkR pairV (acc++[kv]),loops:=[]:Heap};goG 90 _ hT (.len (show lenA false (.sl .sh (strs ps))=some (.int .i64 (↑ps.length))from hlen)<|.yes (decide_eq_true (p:=(↑i:Int)<(↑ps.length:Int)) (by simp;omega))<|.idx (show idxA 1 (.sl .sh (strs ps)) (.int .i64 ↑i)=some (.ref [.str w])from hix)<|.effY (show Does cfg (.call (.c (.func (80:FuncId) [])) [.c (.str w),.c (.int .u8 61)]) ζ1 (pairV kv) ζ1 from sp')<|.len (show lenA false (.sl .sh [.str kv.fst,.str kv.snd])=some (.int .i64 2)from l2)<|.ff<|.idx (show idxA 1 (.sl .sh [.str kv.fst,.str kv.snd]) (.int .i64 1)=some (.ref [.str kv.snd])from x2)<|.callI dg<|.ff<|.append (show appendA (1:Nat) (24:Nat) ζ1 (.sl (skF acc) (acc.map pairV)) (.sl .full [.sl .sh [.str kv.fst,.str kv.snd]])=some ((rowF pairV (acc++[kv]),ζ2))from row_append_T _ (by simp;omega) (by exact pairV_len) (by rfl) (by rfl))<|.bin (show binA .add (.int .i64 ↑i) (.int .i64 1)=some (.int .i64 (↑(i+1)))from inc_i (by omega))<|.cutQ k33_0 [(4,.sl .sh (strs ps)),(5,.sl (skF (acc++[kv])) (List.map pairV (acc++[kv]))),(6,.int .i64 (↑(i+1)))] (ζ2) (fun T hT=>(ih' T hT))) (by kernel_rfl)
  |none=>
   have hall2:allA ps=none:=by
    rw[hall]
    simp[allA,hf]
   have hb:=hbad hall2
   rcases form_none hf with h2|⟨a,b,h2,h3,h4⟩
   ·have sp:=split_does (H:=⟨[],tkR pairV acc,[]⟩) 61 hw (rfl:parts 61 w=_)
    have sp':Does cfg (.call (.c (.func 80 [])) [.c (.str w),.c (.int .u8 61)]) ⟨[],tkR pairV acc,[]⟩ (.sl .sh (strs (parts 61 w))) ⟨[],tkR pairV acc,[]⟩:=sp
    have l2:lenA false (.sl .sh (strs (parts 61 w)))=some (.int .i64 ((parts 61 w).length:Nat)):=by simp[lenA,strs]
    generalize(parts 61 w).length=m at*
    generalize AV.sl .sh (strs (parts 61 w))=z at*
    exact let ζ1:Heap:={boxes:=[],toks:=tkR pairV acc,loops:=[]:Heap};goG 90 _ hT (.len (show lenA false (.sl .sh (strs ps))=some (.int .i64 (↑ps.length))from hlen)<|.yes (decide_eq_true (p:=(↑i:Int)<(↑ps.length:Int)) (by omega))<|.idx (show idxA 1 (.sl .sh (strs ps)) (.int .i64 ↑i)=some (.ref [.str w])from hix)<|.effY (show Does cfg (.call (.c (.func (80:FuncId) [])) [.c (.str w),.c (.int .u8 61)]) ζ1 z ζ1 from sp')<|.len (show lenA false z=some (.int .i64 ↑m)from l2)<|.yes (show((↑m:Int) !=(2:Int))=true from(by simp;omega))<|.tt<|.fin ((.ret (.tuple [.sl .full [],.int .i64 2]),ζ1)) (by exact hb _)) (by kernel_rfl)
   ·have sp:=split_does (H:=⟨[],tkR pairV acc,[]⟩) 61 hw h2
    have sp':Does cfg (.call (.c (.func 80 [])) [.c (.str w),.c (.int .u8 61)]) ⟨[],tkR pairV acc,[]⟩ (.sl .sh [.str a,.str b]) ⟨[],tkR pairV acc,[]⟩:=sp
    have dg:=digits_ref b (by omega)
    rw[h3]at dg
    exact let ζ1:Heap:={boxes:=[],toks:=tkR pairV acc,loops:=[]:Heap};goG 90 _ hT (.len (show lenA false (.sl .sh (strs ps))=some (.int .i64 (↑ps.length))from hlen)<|.yes (decide_eq_true (p:=(↑i:Int)<(↑ps.length:Int)) (by omega))<|.idx (show idxA 1 (.sl .sh (strs ps)) (.int .i64 ↑i)=some (.ref [.str w])from hix)<|.effY (show Does cfg (.call (.c (.func (80:FuncId) [])) [.c (.str w),.c (.int .u8 61)]) ζ1 (.sl .sh [.str a,.str b]) ζ1 from sp')<|.len (show lenA false (.sl .sh [.str a,.str b])=some (.int .i64 (↑[.str a,.str b].length:Int))from len_sl _ _)<|.ff<|.idx (rfl:idxA 1 (.sl .sh [.str a,.str b]) (.int .i64 1)=some (.ref [.str b]))<|.callI dg<|.tt<|.fin ((.ret (.tuple [.sl .full [],.int .i64 2]),ζ1)) (by exact hb _)) (by kernel_rfl)
theorem read2_loop(l:List (List UInt8×List UInt8))(hn:l.length≤1001)(hl:∀p∈l,p.2.length≤1000∧p.2.all isDig=true)(ts:List Nat)(sk:SK):∀(post:List (List UInt8×List UInt8))(i:Nat)(acc:List Amount)(hd:l.drop i=post)(ha:acc.length=i)(hacc:acc++post.map amtA=l.map amtA)(T:Env)
 (hT:Has T [(5,.sl sk (l.map pairV)),(8,rowS ⟨[],ts,[]⟩ (acc.map encA)),(9,.int .i64 i)]),
 Goes cfg a33 k33_1 T (rowH ⟨[],ts,[]⟩ (acc.map encA)) (IsOut (if post.any tooA=true then .tuple [.sl .sh [],.int .i64 5]else if ckV (l.map amtA)=0 then .tuple [.sl .sh ((l.map amtA).map encA),.int .i64 0]else .tuple [.sl .sh [],.int .i64 (ckV (l.map amtA))])):=by
 intro post
 induction post with
 |nil=>
  intro i acc hd ha hacc T hT
  have hge:=drop_ge hd
  have e:acc=l.map amtA:=by simpa using hacc
  rw[if_neg (by simp)]
  rw[←e]
  have hc:=ckV_ref acc
  generalize ckV acc=c at hc⊢
  by_cases h0:c=0
  ·subst h0
   rw[if_pos rfl]
   exact let ζ1:Heap:={boxes:=[],toks:=ts,loops:=[]:Heap};goG 90 _ hT (.len (show lenA false (.sl sk (l.map pairV))=some (.int .i64 (↑l.length))from len_map _)<|.no (decide_eq_false (p:=(↑i:Int)<(↑l.length:Int)) (by omega))<|.callG ([rowS ζ1 (acc.map encA)]) (.int .i64 0) (show Gives cfg (16:FuncId) [.sl .sh (acc.map encA)] (.int .i64 0)from hc) Shuts.p ⟨rfl,rfl⟩<|.ff<|.fin ((.ret (.tuple [rowS ζ1 (acc.map encA),.int .i64 0]),rowH ζ1 (acc.map encA))) (by exact out_rowS encA _ _ _ _)) (by kernel_rfl)
  ·rw[if_neg h0]
   exact let ζ1:Heap:={boxes:=[],toks:=ts,loops:=[]:Heap};goG 90 _ hT (.len (show lenA false (.sl sk (l.map pairV))=some (.int .i64 (↑l.length))from len_map _)<|.no (decide_eq_false (p:=(↑i:Int)<(↑l.length:Int)) (by omega))<|.callG ([rowS ζ1 (acc.map encA)]) (.int .i64 c) (show Gives cfg (16:FuncId) [.sl .sh (acc.map encA)] (.int .i64 c)from hc) Shuts.p ⟨rfl,rfl⟩<|.yes (show(c !=(0:Int))=true from(by simpa using h0))<|.fin ((.ret (.tuple [.sl .full [],.int .i64 c]),rowH ζ1 (acc.map encA))) (by exact out_bad _ _)) (by kernel_rfl)
 |cons kv post ih=>
  intro i acc hd ha hacc T hT
  have hlt:=drop_lt hd
  have hnx:=drop_next hd
  obtain⟨h1,h2⟩:=hl kv (drop_mem hd)
  have nr:=number_ref kv.2 h1 h2
  have hix:idxA 1 (.sl sk (l.map pairV)) (.int .i64 (i:Nat))=some (.ref [pairV kv]):=idx_row (f:=pairV) hd rfl
  by_cases ht:tooA kv=true
  ·have e:(kv::post).any tooA=true:=by simp[ht]
   rw[if_pos e]
   have hv:¬valN 0 kv.2<9223372036854775808:=by
    have:9223372036854775808≤valN 0 kv.2:=by simpa[tooA]using ht
    omega
   rw[if_neg hv]at nr
   exact let ζ1:Heap:={boxes:=[],toks:=ts,loops:=[]:Heap};let ζ2:List AV:=[.str kv.snd,.int .i64 9223372036854775807];goG 90 _ hT (.len (show lenA false (.sl sk (l.map pairV))=some (.int .i64 (↑l.length))from len_map _)<|.yes (decide_eq_true (p:=(↑i:Int)<(↑l.length:Int)) (by omega))<|.idx (show idxA 1 (.sl sk (l.map pairV)) (.int .i64 ↑i)=some (.ref [pairV kv])from hix)<|.load (rfl:loadA false 1 (rowH ζ1 (acc.map encA)) (.ref [.sl .sh [.str kv.fst,.str kv.snd]])=some (.sl .sh [.str kv.fst,.str kv.snd]))<|.idx (rfl:idxA 1 (.sl .sh [.str kv.fst,.str kv.snd]) (.int .i64 1)=some (.ref [.str kv.snd]))<|.load (rfl:loadA false 1 (rowH ζ1 (acc.map encA)) (.ref [.str kv.snd])=some (.str kv.snd))<|.callK (ζ2) (.tuple [.int .i64 0,.bool false]) (show Gives cfg (82:FuncId) ζ2 (.tuple [.int .i64 0,.bool false])from nr)<|.tt<|.fin ((.ret (.tuple [.sl .full [],.int .i64 5]),rowH ζ1 (acc.map encA))) (by exact out_bad _ _)) (by kernel_rfl)
  ·have e:(kv::post).any tooA=post.any tooA:=by simp[ht]
   rw[e]
   have hv:valN 0 kv.2<9223372036854775808:=by
    have:¬9223372036854775808≤valN 0 kv.2:=by simpa[tooA]using ht
    omega
   rw[if_pos hv]at nr
   have hacc2:(acc++[amtA kv])++post.map amtA=l.map amtA:=by rw[←hacc];simp
   have ih':=ih (i+1) (acc++[amtA kv]) hnx (by simp;omega) hacc2
   have ap:appendA 2 24 (rowH ⟨[],ts,[]⟩ (acc.map encA)) (rowS ⟨[],ts,[]⟩ (acc.map encA)) (.sl .full [.agg [.str kv.1,.int .i64 (valN 0 kv.2:Nat)]])=some (rowS ⟨[],ts,[]⟩ ((acc++[amtA kv]).map encA),rowH ⟨[],ts,[]⟩ ((acc++[amtA kv]).map encA)):=
    row_append_map (f:=encA) (x:=amtA kv) (by simp;omega) lenA2 rfl rfl
   generalize(valN 0 kv.2:Int)=v at*
   generalize rowS ⟨[],ts,[]⟩ (acc.map encA)=r0 at*
   generalize rowH ⟨[],ts,[]⟩ (acc.map encA)=q0 at*
   exact let ζ1:Heap:={boxes:=[],toks:=ts,loops:=[]:Heap};let ζ2:List AV:=[.str kv.snd,.int .i64 9223372036854775807];let ζ3:List AV:=[.sl .sh [.str kv.fst,.str kv.snd]];goG 90 _ hT (.len (show lenA false (.sl sk (l.map pairV))=some (.int .i64 (↑l.length))from len_map _)<|.yes (decide_eq_true (p:=(↑i:Int)<(↑l.length:Int)) (by omega))<|.idx (show idxA 1 (.sl sk (l.map pairV)) (.int .i64 ↑i)=some (.ref [pairV kv])from hix)<|.load (rfl:loadA false 1 q0 (.ref ζ3)=some (.sl .sh [.str kv.fst,.str kv.snd]))<|.idx (rfl:idxA 1 (.sl .sh [.str kv.fst,.str kv.snd]) (.int .i64 1)=some (.ref [.str kv.snd]))<|.load (rfl:loadA false 1 q0 (.ref [.str kv.snd])=some (.str kv.snd))<|.callK (ζ2) (.tuple [.int .i64 v,.bool true]) (show Gives cfg (82:FuncId) ζ2 (.tuple [.int .i64 v,.bool true])from nr)<|.ff<|.idx (show idxA 1 (.sl sk (l.map pairV)) (.int .i64 ↑i)=some (.ref [pairV kv])from hix)<|.load (rfl:loadA false 1 q0 (.ref ζ3)=some (.sl .sh [.str kv.fst,.str kv.snd]))<|.idx (rfl:idxA 1 (.sl .sh [.str kv.fst,.str kv.snd]) (.int .i64 0)=some (.ref [.str kv.fst]))<|.load (rfl:loadA false 1 q0 (.ref [.str kv.fst])=some (.str kv.fst))<|.append (show appendA (2:Nat) (24:Nat) q0 r0 (.sl .full [.agg [.str kv.fst,.int .i64 v]])=some ((rowS ζ1 (List.map encA (acc++[amtA kv])),rowH ζ1 (List.map encA (acc++[amtA kv]))))from ap)<|.bin (show binA .add (.int .i64 ↑i) (.int .i64 1)=some (.int .i64 (↑(i+1)))from inc_i (by omega))<|.cutQ k33_1 [(5,.sl sk (l.map pairV)),(8,rowS ζ1 (List.map encA (acc++[amtA kv]))),(9,.int .i64 (↑(i+1)))] (rowH ζ1 (List.map encA (acc++[amtA kv]))) (fun T hT=>(ih' T hT))) (by kernel_rfl)
theorem all_some{ps:List (List UInt8)}{l:List (List UInt8×List UInt8)}:allA ps=some l→l.length=ps.length∧∀p∈l,digB p.2=true∧∃w∈ps,p.2.length≤w.length:=by
 induction ps generalizing l with
 |nil=>intro h;cases h;simp
 |cons w ws ih=>
  intro h
  simp only[allA]at h
  cases hf:formA w with
  |none=>rw[hf]at h;cases h
  |some kv=>
   rw[hf]at h
   cases ha:allA ws with
   |none=>rw[ha]at h;cases h
   |some l'=>
    rw[ha]at h
    cases h
    obtain⟨h1,h2⟩:=ih ha
    obtain⟨e1,-,e3⟩:=form_some hf
    refine⟨by simp[h1],fun p hp=> ?_⟩
    rcases List.mem_cons.1 hp with rfl|hp
    ·exact⟨e3,w,by simp,by rw[e1];simp;omega⟩
    ·obtain⟨a,w',b,c⟩:=h2 p hp
     exact⟨a,w',by simp[b],c⟩
theorem readA_ref(s:List UInt8)(hl:s.length≤1000)(H:Heap):Does cfg (.call (.c (.func 33 [])) [.c (.str s)]) H (.tuple [.sl .sh ((readA s).1.map encA),.int .i64 (readA s).2]) H:=by
 refine does_callF (xs:=[.str s]) ?_ rfl rfl H
 refine GivesF.run (l33 _ _) ?_
 by_cases hs:s=[45]
 ·subst hs
  exact goG 60 [] trivial (.tt<|.fin ((.ret (.tuple [.sl .full [],.int .i64 0]),{boxes:=[],toks:=[],loops:=[]:Heap})) (by exact out_bad _ _)) (by kernel_rfl)
 ·have sp:=split_does (H:=Heap.nil) 44 hl (rfl:parts 44 s=_)
  have sp':Does cfg (.call (.c (.func 80 [])) [.c (.str s),.c (.int .u8 44)]) Heap.nil (.sl .sh (strs (parts 44 s))) Heap.nil:=sp
  obtain⟨pl1,pl2⟩:=parts_len (c:=44) s
  have e:readA s=(match allA (parts 44 s)with
   |none=>([],2)
   |some l=>if l.any tooA then([],5)else if ckV (l.map amtA)=0 then(l.map amtA,0)else([],ckV (l.map amtA))):=if_neg hs
  have h:=read1_loop (parts 44 s) (by omega) (fun p hp=>by have:=pl2 p hp;omega) (R:=IsOut (.tuple [.sl .sh ((readA s).1.map encA),.int .i64 (readA s).2])) (fun hn H=>by
   rw[e,hn];exact out_bad _ _) (fun l hl2 T hT=>by
   obtain⟨a1,a2⟩:=all_some hl2
   have h2:=read2_loop l (by omega) (fun p hp=>by
    obtain⟨b1,w,b2,b3⟩:=a2 p hp
    have:=pl2 w b2
    exact⟨by omega,dig_all b1⟩) (tkR pairV l) (skF l) l 0 [] rfl rfl (by simp) T hT
   rw[e,hl2]
   simp only
   by_cases t:l.any tooA=true
   ·rw[if_pos t]at h2⊢;exact h2
   ·rw[if_neg t]at h2⊢
    by_cases c0:ckV (l.map amtA)=0
    ·rw[if_pos c0]at h2⊢;exact h2
    ·rw[if_neg c0]at h2⊢;exact h2) (parts 44 s) 0 [] rfl rfl (by cases allA (parts 44 s)<;>simp)
  exact goG 60 [] trivial (.no (show(s==[(45:UInt8)])=false from Bool.eq_false_iff.2 (by simpa using hs))<|.effY (show Does cfg (.call (.c (.func (80:FuncId) [])) [.c (.str s),.c (.int .u8 44)]) Heap.nil (.sl .sh (strs (parts (44:UInt8) s))) Heap.nil from sp')<|.cutQ k33_0 [(4,.sl .sh (strs (parts (44:UInt8) s))),(5,.sl .full []),(6,.int .i64 0)] ({boxes:=[],toks:=[],loops:=[]:Heap}) (fun T hT=>(h T hT))) (by kernel_rfl)
end Go.Aa.T
set_option linter.unusedVariables false
set_option linter.unusedSimpArgs false
set_option maxRecDepth 100000
namespace Go.Aa.T
open Go.Aa Go.Proofs
section
variable{α:Type}(o0 o1 o2:α→List AV)(tk:α→List Nat)(rc:LRec)(v:AV)(I:α→Nat→Prop)
def hS3(a:α)(rest:List UInt8):Heap:=⟨[o0 a,o1 a,o2 a,[.str rest],[.str [44]],[.int .i64 0]],tk a,[rc]⟩
def hB3(a:α)(rest:List UInt8):Heap:=⟨[o0 a,o1 a,o2 a,[.str rest],[.str [44]],[.int .i64 0]],tk a,[{rc with busy:=true}]⟩
def SeqR3(f:α→List UInt8→Option α)(a:α)(rest:List UInt8)(r:ARes×Heap):Prop:=match foldE f a (parts 44 rest)with
 |some a'=>∃last,r=(.ret (.tuple []),hS3 o0 o1 o2 tk rc a' last)
 |none=>∃a' last,r=(.pan v,hB3 o0 o1 o2 tk rc a' last)
theorem seq_run3(f:α→List UInt8→Option α)(hI:∀a x a' m,I a (x.length+1+m)→f a x=some a'→I a' m)
 (hy:∀a p rest a',p.length≤1000→I a rest.length→f a p=some a'→Does cfg (.call (.c (.yield 0)) [.c (.str p)]) (hS3 o0 o1 o2 tk rc a rest) (.bool true) (hS3 o0 o1 o2 tk rc a' rest))
 (hn:∀a p rest,p.length≤1000→I a rest.length→f a p=none→DoesP cfg (.call (.c (.yield 0)) [.c (.str p)]) (hS3 o0 o1 o2 tk rc a rest) v (hB3 o0 o1 o2 tk rc a rest)):
 ∀(n:Nat)(rest:List UInt8)(hr:rest.length≤n)(hl:rest.length≤1000)(a:α)(ha:I a rest.length)(T:Env)(hT:Has T [(0,.yield 0),(1,.ptr 4 0),(2,.ptr 3 0),(3,.ptr 5 0)]),
  Goes cfg a128 k128_1 T (hS3 o0 o1 o2 tk rc a rest) (SeqR3 o0 o1 o2 tk rc v f a rest):=by
 intro n
 induction n with
 |zero=>
  intro rest hr hl a ha T hT
  have e:rest=[]:=List.length_eq_zero_iff.1 (by omega)
  subst e
  have hi:Gives cfg 130 [.str [],.str [44]] (.int .i64 (-1)):=index1 130 [] 44 rfl rfl
  cases hf:f a []with
  |some a'=>
   have hd:=hy a [] [] a' (by simp) ha hf
   have key:Goes cfg a128 k128_1 T (hS3 o0 o1 o2 tk rc a []) (fun r=>r=(.ret (.tuple []),hS3 o0 o1 o2 tk rc a' [])):=by
    exact goG 60 _ hT (.callI hi<|.tt<|.effY (show Does cfg (.call (.c (AV.yield (0:Nat))) [.c (.str [])]) (hS3 o0 o1 o2 tk rc a []) (.bool true) (hS3 o0 o1 o2 tk rc a' [])from hd)<|.fin ((.ret (.tuple []),{boxes:=[o0 a',o1 a',o2 a',[.str []],[.str [(44:UInt8)]],[.int .i64 0]],toks:=tk a',loops:=[rc]:Heap})) rfl) (by kernel_rfl)
   refine Goes.imp key ?_
   rintro r rfl
   simp only[SeqR3,parts,foldE,hf]
   exact⟨_,rfl⟩
  |none=>
   have hd:=hn a [] [] (by simp) ha hf
   have key:Goes cfg a128 k128_1 T (hS3 o0 o1 o2 tk rc a []) (fun r=>r=(.pan v,hB3 o0 o1 o2 tk rc a [])):=by
    exact goG 60 _ hT (.callI hi<|.tt<|.panY (show DoesP cfg (.call (.c (AV.yield (0:Nat))) [.c (.str [])]) (hS3 o0 o1 o2 tk rc a []) v (hB3 o0 o1 o2 tk rc a [])from hd) rfl) (by kernel_rfl)
   refine Goes.imp key ?_
   rintro r rfl
   simp only[SeqR3,parts,foldE,hf]
   exact⟨_,_,rfl⟩
 |succ n ih=>
  intro rest hr hl a ha T hT
  cases hc:cutAt 44 rest with
  |none=>
   have hm:=cutAt_none hc
   have hi:Gives cfg 130 [.str rest,.str [44]] (.int .i64 (-1)):=by
    have:=index1 130 rest 44 rfl rfl
    rwa [ib_none hm]at this
   have ep:=parts_none hm
   cases hf:f a rest with
   |some a'=>
    have hd:=hy a rest rest a' hl ha hf
    have key:Goes cfg a128 k128_1 T (hS3 o0 o1 o2 tk rc a rest) (fun r=>r=(.ret (.tuple []),hS3 o0 o1 o2 tk rc a' rest)):=by
     exact goG 60 _ hT (.callI hi<|.tt<|.effY (show Does cfg (.call (.c (AV.yield (0:Nat))) [.c (.str rest)]) (hS3 o0 o1 o2 tk rc a rest) (.bool true) (hS3 o0 o1 o2 tk rc a' rest)from hd)<|.fin ((.ret (.tuple []),{boxes:=[o0 a',o1 a',o2 a',[.str rest],[.str [(44:UInt8)]],[.int .i64 0]],toks:=tk a',loops:=[rc]:Heap})) rfl) (by kernel_rfl)
    refine Goes.imp key ?_
    rintro r rfl
    simp only[SeqR3,ep,foldE,hf]
    exact⟨_,rfl⟩
   |none=>
    have hd:=hn a rest rest hl ha hf
    have key:Goes cfg a128 k128_1 T (hS3 o0 o1 o2 tk rc a rest) (fun r=>r=(.pan v,hB3 o0 o1 o2 tk rc a rest)):=by
     exact goG 60 _ hT (.callI hi<|.tt<|.panY (show DoesP cfg (.call (.c (AV.yield (0:Nat))) [.c (.str rest)]) (hS3 o0 o1 o2 tk rc a rest) v (hB3 o0 o1 o2 tk rc a rest)from hd) rfl) (by kernel_rfl)
    refine Goes.imp key ?_
    rintro r rfl
    simp only[SeqR3,ep,foldE,hf]
    exact⟨_,_,rfl⟩
  |some p=>
   obtain⟨x,y⟩:=p
   obtain⟨rfl,hm⟩:=cutAt_some hc
   have hi:Gives cfg 130 [.str (x++44::y),.str [44]] (.int .i64 (x.length:Nat)):=by
    have:=index1 130 (x++44::y) 44 rfl rfl
    rwa [ib_at hm]at this
   have ep:parts 44 (x++44::y)=x::parts 44 y:=parts_some hm
   have hlx:x.length+y.length+1≤1000:=by simpa[Nat.add_assoc]using hl
   have hry:y.length≤n:=by
    have:x.length+(y.length+1)≤n+1:=by simpa using hr
    omega
   have h0:binA .add (.int .i64 (x.length:Nat)) (.int .i64 0)=some (.int .i64 (x.length:Nat)):=by
    rw[addI (by omega) (by omega),Int.add_zero]
   have s1:sliceA 0 (.str (x++44::y)) none (some (.int .i64 (x.length:Nat))) none=some (.str x):=by
    rw[sstr_to (by simp)];simp
   have s2:sliceA 0 (.str (x++44::y)) (some (.int .i64 ((x.length+1:Nat):Int))) none none=some (.str y):=by
    rw[sstr_from (by simp),List.drop_append];simp
   cases hf:f a x with
   |some a'=>
    have hd:=hy a x (x++44::y) a' (by omega) ha hf
    have e:SeqR3 o0 o1 o2 tk rc v f a (x++44::y)=SeqR3 o0 o1 o2 tk rc v f a' y:=by
     funext r
     simp only[SeqR3,ep,foldE,hf]
    rw[e]
    have ha2:I a' y.length:=hI a x a' y.length (by simpa[Nat.add_assoc,Nat.add_comm 1]using ha) hf
    have ih2:=ih y hry (by omega) a' ha2
    exact let ζ1:List AV:=[.str (x++(44:UInt8)::y),.str [(44:UInt8)]];goG 60 _ hT (.callK (ζ1) (.int .i64 (↑x.length)) (show Gives cfg (130:FuncId) ζ1 (.int .i64 (↑x.length))from hi)<|.ff<|.bin (show binA .add (.int .i64 (↑x.length)) (.int .i64 0)=some (.int .i64 (↑x.length))from h0)<|.slice (show sliceA (0:Nat) (.str (x++(44:UInt8)::y)) none (some (.int .i64 (↑x.length))) none=some (.str x)from s1)<|.effY (show Does cfg (.call (.c (AV.yield (0:Nat))) [.c (.str x)]) (hS3 o0 o1 o2 tk rc a (x++(44:UInt8)::y)) (.bool true) (hS3 o0 o1 o2 tk rc a' (x++(44:UInt8)::y))from hd)<|.ff<|.len (show lenA true (.str [(44:UInt8)])=some (.int .i64 (↑[(44:UInt8)].length:Int))from len_str _)<|.bin (show binA .add (.int .i64 (↑x.length)) (.int .i64 (↑[(44:UInt8)].length:Int))=some (.int .i64 (↑(x.length+(1:Nat)):Int))from inc_i (by omega))<|.slice (show sliceA (0:Nat) (.str (x++(44:UInt8)::y)) (some (.int .i64 (↑(x.length+(1:Nat)):Int))) none none=some (.str y)from s2)<|.cutQ k128_1 [(0,AV.yield (0:Nat)),(1,.ptr 4 0),(2,.ptr 3 0),(3,.ptr 5 0)] ({boxes:=[o0 a',o1 a',o2 a',[.str y],[.str [(44:UInt8)]],[.int .i64 0]],toks:=tk a',loops:=[rc]:Heap}) (fun T hT=>(ih2 T hT))) (by kernel_rfl)
   |none=>
    have hd:=hn a x (x++44::y) (by omega) ha hf
    have key:Goes cfg a128 k128_1 T (hS3 o0 o1 o2 tk rc a (x++44::y)) (fun r=>r=(.pan v,hB3 o0 o1 o2 tk rc a (x++44::y))):=by
     exact let ζ1:List AV:=[.str (x++(44:UInt8)::y),.str [(44:UInt8)]];goG 60 _ hT (.callK (ζ1) (.int .i64 (↑x.length)) (show Gives cfg (130:FuncId) ζ1 (.int .i64 (↑x.length))from hi)<|.ff<|.bin (show binA .add (.int .i64 (↑x.length)) (.int .i64 0)=some (.int .i64 (↑x.length))from h0)<|.slice (show sliceA (0:Nat) (.str (x++(44:UInt8)::y)) none (some (.int .i64 (↑x.length))) none=some (.str x)from s1)<|.panY (show DoesP cfg (.call (.c (AV.yield (0:Nat))) [.c (.str x)]) (hS3 o0 o1 o2 tk rc a (x++(44:UInt8)::y)) v (hB3 o0 o1 o2 tk rc a (x++(44:UInt8)::y))from hd) rfl) (by kernel_rfl)
    refine Goes.imp key ?_
    rintro r rfl
    simp only[SeqR3,ep,foldE,hf]
    exact⟨_,_,rfl⟩
theorem seq_call3(f:α→List UInt8→Option α)(hI:∀a x a' m,I a (x.length+1+m)→f a x=some a'→I a' m)
 (hy:∀a p rest a',p.length≤1000→I a rest.length→f a p=some a'→Does cfg (.call (.c (.yield 0)) [.c (.str p)]) (hS3 o0 o1 o2 tk rc a rest) (.bool true) (hS3 o0 o1 o2 tk rc a' rest))
 (hn:∀a p rest,p.length≤1000→I a rest.length→f a p=none→DoesP cfg (.call (.c (.yield 0)) [.c (.str p)]) (hS3 o0 o1 o2 tk rc a rest) v (hB3 o0 o1 o2 tk rc a rest))
 (rest:List UInt8)(hl:rest.length≤1000)(a:α)(ha:I a rest.length):∃r,lim cfg (.fn 128) [.yield 0,.ptr 4 0,.ptr 3 0,.ptr 5 0] (hS3 o0 o1 o2 tk rc a rest)=some r∧SeqR3 o0 o1 o2 tk rc v f a rest r:=by
 rw[l128]
 have h:=seq_run3 o0 o1 o2 tk rc v I f hI hy hn rest.length rest (Nat.le_refl _) hl a ha
 have key:Goes cfg a128 [.c c128] (initEnv [.yield 0,.ptr 4 0,.ptr 3 0,.ptr 5 0]) (hS3 o0 o1 o2 tk rc a rest) (SeqR3 o0 o1 o2 tk rc v f a rest):=by
  exact goG 60 [] trivial (.len (show lenA true (.str [(44:UInt8)])=some (.int .i64 (↑[(44:UInt8)].length:Int))from len_str _)<|.ff<|.cutQ k128_1 [(0,AV.yield (0:Nat)),(1,.ptr 4 0),(2,.ptr 3 0),(3,.ptr 5 0)] ({boxes:=[o0 a,o1 a,o2 a,[.str rest],[.str [(44:UInt8)]],[.int .i64 0]],toks:=tk a,loops:=[rc]:Heap}) (fun T hT=>(h T hT))) (by kernel_rfl)
 exact key
end
end Go.Aa.T
set_option linter.unusedVariables false
set_option linter.unusedSimpArgs false
set_option maxRecDepth 100000
namespace Go.Aa.T
open Go.Aa Go.Proofs
abbrev AcA:=List Amount×Int
def amtC(kv:List UInt8×List UInt8):Amount:=⟨kv.1,(numA kv.2).1⟩
def collectA(a:AcA)(p:List UInt8):Option AcA:=(formA p).map fun kv=>(a.1++[amtC kv],if(numA kv.2).2>a.2 then(numA kv.2).2 else a.2)
section
variable(s0:List UInt8)
def oA0(_:AcA):List AV:=[.str s0]
def oA1(a:AcA):List AV:=[rowF encA a.1]
def oA2(a:AcA):List AV:=[.int .i64 a.2]
def tkA(a:AcA):List Nat:=tkR encA a.1
theorem trA(rc:LRec)(h1:rc.nb=6)(h2:rc.nt=0)(acc:AcA)(rest:List UInt8)(n:Nat)(hn:n≤1)(h0:n=1→acc.1≠[])(v:AV)(hv:within 6 n v=true):
 trunc 6 n v ⟨[oA0 s0 acc,oA1 acc,oA2 acc,[.str rest],[.str [44]],[.int .i64 0]],tkA acc,[rc]⟩=⟨[oA0 s0 acc,oA1 acc,oA2 acc,[.str rest],[.str [44]],[.int .i64 0]],tkA acc,[rc]⟩:=by
 have hb:∀(b:Bool)(l:List (List AV)),l.length=6→(if b=true then l.take 6 else l)=l:=fun b l hl=>by
  split
  ·exact List.take_of_length_le (by omega)
  ·rfl
 obtain⟨acc,ov⟩:=acc
 unfold trunc
 simp only
 rw[hb _ _ rfl]
 simp only[Heap.mk.injEq,true_and,and_true]
 cases acc with
 |nil=>simp[tkA,tk_nil]
 |cons x l=>
  simp only[tkA]
  rw[tk_cons]
  rcases Nat.lt_or_ge n 1 with h|h
  ·have:n=0:=by omega
   subst this
   have hf:(([oA0 s0 (x::l,ov),oA1 (x::l,ov),oA2 (x::l,ov),[.str rest],[.str [44]],[.int .i64 0]]:List (List AV)).all fun x_1=>x_1.all (in2 ([oA0 s0 (x::l,ov),oA1 (x::l,ov),oA2 (x::l,ov),[.str rest],[.str [44]],[.int .i64 0]]:List (List AV)).length 0))=false:=rfl
   rw[hf]
   simp
  ·have:n=1:=by omega
   subst this
   split<;>rfl
theorem numA_form{v:List UInt8}(h:digB v=true):(numA v).2≠2:=by
 unfold numA
 rw[if_pos h]
 split<;>simp
theorem ylA(rc:LRec)(T0:Env)(hT0:rc.T=T0)(hps:rc.ps=[11])(has:rc.assign=ra75_0)(hbd:rc.body=rb75_0)(hbu:rc.busy=false)(h1:rc.nb=6)(h2:rc.nt=0)(hT:Has T0 [(1,.ptr 1 0),(2,.ptr 2 0)])
 (acc:AcA)(p rest:List UInt8)(acc':AcA)(hl:p.length≤1000)(hacc:acc.1.length≤100000)(hf:collectA acc p=some acc'):
 Does cfg (.call (.c (.yield 0)) [.c (.str p)]) (hS3 (oA0 s0) oA1 oA2 tkA rc acc rest) (.bool true) (hS3 (oA0 s0) oA1 oA2 tkA rc acc' rest):=by
 unfold collectA at hf
 simp only[Option.map_eq_some_iff]at hf
 obtain⟨kv,hkv,rfl⟩:=hf
 obtain⟨k,v⟩:=kv
 obtain⟨e1,-,e3⟩:=form_some hkv
 simp only at e1 e3
 obtain⟨l,ov⟩:=acc
 have hm:(61:UInt8)∉k:=by
  unfold formA at hkv
  split at hkv
  ·rename_i k' v' hc
   split at hkv
   ·simp only[Option.some.injEq,Prod.mk.injEq]at hkv
    obtain⟨rfl,rfl⟩:=hkv
    exact(cutAt_some hc).2
   ·cases hkv
  ·cases hkv
 subst e1
 have hlen:k.length+v.length≤1000:=by simp at hl;omega
 have hcut:=cut_hit k v 61 hm hlen
 have hnum:=num_any v (by omega)
 have hne:=numA_form e3
 have key:Goes cfg roundA [.c rb75_0] (upd (psetA T0 [11] [.str (k++61::v)]) 3 (.str (k++61::v))) (hB3 (oA0 s0) oA1 oA2 tkA rc (l,ov) rest) (fun r=>r=(.ret (.tuple []),hB3 (oA0 s0) oA1 oA2 tkA rc (l++[amtC (k,v)],if(numA v).2>ov then(numA v).2 else ov) rest)):=by
  have hT':Has (upd (psetA T0 [11] [.str (k++61::v)]) 3 (.str (k++61::v))) [(1,.ptr 1 0),(2,.ptr 2 0),(3,.str (k++61::v))]:=⟨hT.1,hT.2.1,rfl,trivial⟩
  have ap:∀bs ls,appendA 2 24 ⟨bs,tkR encA l,ls⟩ (rowF encA l) (.sl .full [.agg [.str k,.int .i64 (numA v).1]])=some (rowF encA (l++[amtC (k,v)]),⟨bs,tkR encA (l++[amtC (k,v)]),ls⟩):=fun bs ls=>
   row_append_T encA (x:=amtC (k,v)) (by simp;simp at hacc;omega) lenA2 rfl rfl
  exact let ζ1:List AV:=[.int .i64 (if true=true then if(numA v).snd>(l,ov).snd then(numA v).snd else(l,ov).snd else if(numA v).snd<(l,ov).snd then(numA v).snd else(l,ov).snd)];let ζ2:List (List AV):=[[.str s0],[.sl (skF (l,ov).fst) (List.map encA (l,ov).fst)],ζ1,[.str rest],[.str [(44:UInt8)]],[.int .i64 0]];let ζ3:List AV:=[.str (k++(61:UInt8)::v),.str [(61:UInt8)]];let ζ4:List AV:=[.int .i64 (numA v).fst,.int .i64 (numA v).snd];goG 90 _ hT' (.callK (ζ3) (.tuple [.str k,.str v,.bool true]) (show Gives cfg (77:FuncId) ζ3 (.tuple [.str k,.str v,.bool true])from hcut)<|.callI hnum<|.ff<|.no (show((numA v).snd==(2:Int))=false from Bool.eq_false_iff.2 (by simpa using hne))<|.append (show appendA (2:Nat) (24:Nat) {boxes:=ζ2,toks:=tkA (l,ov),loops:=[{A:=rc.A,T:=rc.T,ps:=rc.ps,assign:=rc.assign,body:=rc.body,busy:=true,nb:=rc.nb,nt:=rc.nt,nl:=rc.nl:LRec}]:Heap} (.sl (skF (l,ov).fst) (List.map encA (l,ov).fst)) (.sl .full [.agg [.str k,.int .i64 (numA v).fst]])=some ((rowF encA (l++[amtC (k,v)]),{boxes:=ζ2,toks:=tkR encA (l++[amtC (k,v)]),loops:=[{A:=rc.A,T:=rc.T,ps:=rc.ps,assign:=rc.assign,body:=rc.body,busy:=true,nb:=rc.nb,nt:=rc.nt,nl:=rc.nl:LRec}]:Heap}))from ap _ _)<|.fin ((.ret (.tuple []),{boxes:=[[.str s0],[.sl (skF (l++[amtC (k,v)])) (List.map encA (l++[amtC (k,v)]))],ζ1,[.str rest],[.str [(44:UInt8)]],[.int .i64 0]],toks:=tkR encA (l++[amtC (k,v)]),loops:=[{A:=rc.A,T:=rc.T,ps:=rc.ps,assign:=rc.assign,body:=rc.body,busy:=true,nb:=rc.nb,nt:=rc.nt,nl:=rc.nl:LRec}]:Heap})) rfl) (by kernel_rfl)
 obtain⟨r,hr,rfl⟩:=key
 have hrun:runL cfg roundA [.c rc.assign,.beg 0,.c rc.body] (psetA rc.T rc.ps [.str (k++61::v)]) (hS3 (oA0 s0) oA1 oA2 tkA rc (l,ov) rest)=some (.ret (.tuple []),hB3 (oA0 s0) oA1 oA2 tkA rc (l++[amtC (k,v)],if(numA v).2>ov then(numA v).2 else ov) rest):=by
  rw[hT0,hps,has,hbd]
  rw[show(ra75_0:ACode)=.region [⟨some 3,.mov (.t 11),none,[]⟩] false from rfl,runL_assign,runL_beg (r:=rc) rfl hbu]
  exact hr
 have h3:=yl_ret (cfg:=cfg) (l:=0) (args:=[.str (k++61::v)]) (r:=rc) (r':={rc with busy:=true}) rfl (by rw[hps];rfl) hrun rfl
 have e1:({({rc with busy:=true}:LRec)with busy:=false}:LRec)=rc:=by cases rc;simp only at hbu;subst hbu;rfl
 have h4:=does_yield h3 rfl
 refine Eq.mp ?_ h4
 congr 1
 generalize hov:(if(numA v).2>ov then(numA v).2 else ov)=ov'
 show trunc 6 (tkA (l,ov)).length (.bool true) ⟨[oA0 s0 (l++[amtC (k,v)],ov'),oA1 (l++[amtC (k,v)],ov'),oA2 (l++[amtC (k,v)],ov'),[.str rest],[.str [44]],[.int .i64 0]],tkA (l++[amtC (k,v)],ov'),[{({rc with busy:=true}:LRec)with busy:=false}]⟩=_
 rw[e1]
 have ht:=trA s0 rc h1 h2 (l++[amtC (k,v)],ov') rest (tkA (l,ov)).length (by cases l with
  |nil=>simp[tkA,tk_nil]
  |cons y l=>simp[tkA,tk_cons]) (fun _=>by simp) (.bool true) rfl
 rw[ht]
 subst hov
 rfl
theorem ynA(rc:LRec)(T0:Env)(hT0:rc.T=T0)(hps:rc.ps=[11])(has:rc.assign=ra75_0)(hbd:rc.body=rb75_0)(hbu:rc.busy=false)(h1:rc.nb=6)(h2:rc.nt=0)(hT:Has T0 [(1,.ptr 1 0),(2,.ptr 2 0)])
 (acc:AcA)(p rest:List UInt8)(hl:p.length≤1000)(hf:collectA acc p=none):
 DoesP cfg (.call (.c (.yield 0)) [.c (.str p)]) (hS3 (oA0 s0) oA1 oA2 tkA rc acc rest) (stopV 2) (hB3 (oA0 s0) oA1 oA2 tkA rc acc rest):=by
 have hs:Pans cfg 79 [.int .i64 2] (stopV 2):=stop_pan (by decide)
 have key:Goes cfg roundA [.c rb75_0] (upd (psetA T0 [11] [.str p]) 3 (.str p)) (hB3 (oA0 s0) oA1 oA2 tkA rc acc rest) (fun r=>r=(.pan (stopV 2),hB3 (oA0 s0) oA1 oA2 tkA rc acc rest)):=by
  have hT':Has (upd (psetA T0 [11] [.str p]) 3 (.str p)) [(1,.ptr 1 0),(2,.ptr 2 0),(3,.str p)]:=⟨hT.1,hT.2.1,rfl,trivial⟩
  cases hc:cutAt 61 p with
  |none=>
   have hcut:=cut_miss p 61 (cutAt_none hc)
   have hnum:Gives cfg 78 [.str []] (.tuple [.int .i64 0,.int .i64 2]):=num_any [] (by simp)
   exact goG 90 _ hT' (.callI hcut<|.callI hnum<|.tt<|.tt<|.callP ([.int .i64 2]) ({boxes:=[[.str s0],[.sl (skF acc.fst) (acc.fst.map encA)],[.int .i64 acc.snd],[.str rest],[.str [(44:UInt8)]],[.int .i64 0]],toks:=tkA acc,loops:=[{A:=rc.A,T:=rc.T,ps:=rc.ps,assign:=rc.assign,body:=rc.body,busy:=true,nb:=rc.nb,nt:=rc.nt,nl:=rc.nl:LRec}]:Heap}) (show Pans cfg (79:FuncId) [.int .i64 2] (stopV (2:Int))from hs) ⟨rfl,rfl⟩ rfl rfl) (by kernel_rfl)
  |some kv=>
   obtain⟨k,v⟩:=kv
   obtain⟨e1,hm⟩:=cutAt_some hc
   have hd:¬digB v=true:=by
    intro hd
    unfold collectA formA at hf
    rw[hc]at hf
    simp[hd]at hf
   have hnum:=num_any v (by rw[e1]at hl;simp at hl;omega)
   have en:numA v=(0,2):=by unfold numA;rw[if_neg hd]
   rw[en]at hnum
   have hcut:=cut_hit k v 61 hm (by rw[e1]at hl;simp at hl;omega)
   rw[←e1]at hcut
   have hnum':Gives cfg 78 [.str v] (.tuple [.int .i64 0,.int .i64 2]):=hnum
   exact goG 90 _ hT' (.callI hcut<|.callI hnum'<|.ff<|.tt<|.callP ([.int .i64 2]) ({boxes:=[[.str s0],[.sl (skF acc.fst) (acc.fst.map encA)],[.int .i64 acc.snd],[.str rest],[.str [(44:UInt8)]],[.int .i64 0]],toks:=tkA acc,loops:=[{A:=rc.A,T:=rc.T,ps:=rc.ps,assign:=rc.assign,body:=rc.body,busy:=true,nb:=rc.nb,nt:=rc.nt,nl:=rc.nl:LRec}]:Heap}) (show Pans cfg (79:FuncId) [.int .i64 2] (stopV (2:Int))from hs) ⟨rfl,rfl⟩ rfl rfl) (by kernel_rfl)
 obtain⟨r,hr,rfl⟩:=key
 have hrun:runL cfg roundA [.c rc.assign,.beg 0,.c rc.body] (psetA rc.T rc.ps [.str p]) (hS3 (oA0 s0) oA1 oA2 tkA rc acc rest)=some (.pan (stopV 2),hB3 (oA0 s0) oA1 oA2 tkA rc acc rest):=by
  rw[hT0,hps,has,hbd]
  rw[show(ra75_0:ACode)=.region [⟨some 3,.mov (.t 11),none,[]⟩] false from rfl,runL_assign,runL_beg (r:=rc) rfl hbu]
  exact hr
 have h3:=yl_pan (cfg:=cfg) (l:=0) (args:=[.str p]) (r:=rc) rfl (by rw[hps];rfl) hrun
 have h4:=does_yieldP h3 rfl
 refine Eq.mp ?_ h4
 congr 1
 obtain⟨l,ov⟩:=acc
 refine trA s0 {rc with busy:=true} h1 h2 _ rest _ ?_ (fun h=> ?_) _ rfl
 ·show(tkA (l,ov)).length≤1
  cases l with
  |nil=>simp[tkA,tk_nil]
  |cons y l=>simp[tkA,tk_cons]
 ·rintro e
  simp only at e
  subst e
  change(tkR encA []).length=1 at h
  simp[tk_nil]at h
theorem inAm(acc:AcA)(rest:List UInt8):([oA0 s0 acc,oA1 acc,oA2 acc,[.str rest],[.str [44]],[.int .i64 0]]:List (List AV)).all (fun b=>b.all (in2 6 (tkA acc).length))=true:=by
 obtain⟨acc,ov⟩:=acc
 cases acc with
 |nil=>rfl
 |cons x l=>simp only[tkA];rw[tk_cons];rfl
theorem rgAm(s:List UInt8)(hl:s.length≤1000)(T:Env)(hT:Has T [(0,.ptr 0 0),(1,.ptr 1 0),(2,.ptr 2 0),(10,.func 128 [.ptr 4 0,.ptr 3 0,.ptr 5 0])]):
 (∀l,foldE collectA ([],0) (parts 44 s)=some l→∃last,runL cfg a75 kr75_0 T ⟨[oA0 s0 ([],0),oA1 ([],0),oA2 ([],0),[.str s],[.str [44]],[.int .i64 0]],[],[]⟩=runL cfg a75 kr75_0.tail T ⟨[oA0 s0 l,oA1 l,oA2 l,[.str last],[.str [44]],[.int .i64 0]],tkA l,[]⟩)∧
 (foldE collectA ([],0) (parts 44 s)=none→∃H',runL cfg a75 kr75_0 T ⟨[oA0 s0 ([],0),oA1 ([],0),oA2 ([],0),[.str s],[.str [44]],[.int .i64 0]],[],[]⟩=some (.pan (stopV 2),H')):=by
 let rc:LRec:=⟨a75,T,[11],ra75_0,rb75_0,false,6,0,0⟩
 have hT12:Has T [(1,.ptr 1 0),(2,.ptr 2 0)]:=⟨hT.2.1,hT.2.2.1,trivial⟩
 obtain⟨r,hr,hs⟩:=seq_call3 (oA0 s0) oA1 oA2 tkA rc (stopV 2) (fun acc m=>acc.1.length+m≤2000) collectA
  (fun a x a' m h hc=>by
    unfold collectA at hc
    simp only[Option.map_eq_some_iff]at hc
    obtain⟨y,-,rfl⟩:=hc
    simp only[List.length_append,List.length_cons,List.length_nil]
    omega)
  (fun a p rest a' h1 h2 h3=>ylA s0 rc T rfl rfl rfl rfl rfl rfl rfl hT12 a p rest a' h1 (by omega) h3)
  (fun a p rest h1 h2 h3=>ynA s0 rc T rfl rfl rfl rfl rfl rfl rfl hT12 a p rest h1 h3)
  s hl ([],0) (by simp;omega)
 have hfv:ev T (.t 10)=.func 128 [.ptr 4 0,.ptr 3 0,.ptr 5 0]:=hT.2.2.2.1
 have hcall:callV (lim cfg) (.func 128 [.ptr 4 0,.ptr 3 0,.ptr 5 0]) [.yield 0] (hS3 (oA0 s0) oA1 oA2 tkA rc ([],0) s)=callE (lim cfg) 128 [.yield 0,.ptr 4 0,.ptr 3 0,.ptr 5 0] (hS3 (oA0 s0) oA1 oA2 tkA rc ([],0) s):=by
  rw[callV_func];rfl
 constructor
 ·intro l hf
  simp only[SeqR3,hf]at hs
  obtain⟨last,rfl⟩:=hs
  refine⟨last,?_⟩
  have h1:callV (lim cfg) (.func 128 [.ptr 4 0,.ptr 3 0,.ptr 5 0]) [.yield 0] (hS3 (oA0 s0) oA1 oA2 tkA rc ([],0) s)=some (.val (.tuple []) (hS3 (oA0 s0) oA1 oA2 tkA rc l last)):=by
   rw[hcall]
   simp only[callE,hr]
   congr 2
   exact trA s0 rc rfl rfl l last 0 (by omega) (by intro h;cases h) (.tuple []) rfl
  have h2:dropL 0 (hS3 (oA0 s0) oA1 oA2 tkA rc l last)=some ⟨[oA0 s0 l,oA1 l,oA2 l,[.str last],[.str [44]],[.int .i64 0]],tkA l,[]⟩:=by
   exact dropL_of (r:=rc) rfl rfl rfl (inAm s0 l last)
  have h3:=rangeA_val (call:=lim cfg) (A:=a75) (T:=T) (ps:=[11]) (a:=ra75_0) (b:=rb75_0) (H:=⟨[oA0 s0 ([],0),oA1 ([],0),oA2 ([],0),[.str s],[.str [44]],[.int .i64 0]],[],[]⟩) h1 h2
  rw[←hfv]at h3
  exact runL_range rfl h3
 ·intro hf
  simp only[SeqR3,hf]at hs
  obtain⟨a',last,rfl⟩:=hs
  have h1:callV (lim cfg) (.func 128 [.ptr 4 0,.ptr 3 0,.ptr 5 0]) [.yield 0] (hS3 (oA0 s0) oA1 oA2 tkA rc ([],0) s)=some (.pan (stopV 2) (hB3 (oA0 s0) oA1 oA2 tkA rc a' last)):=by
   rw[hcall]
   simp only[callE,hr]
   congr 2
   exact trA s0 {rc with busy:=true} rfl rfl a' last 0 (by omega) (by intro h;cases h) (stopV 2) rfl
  have h2:dropP 0 (hB3 (oA0 s0) oA1 oA2 tkA rc a' last)=some ⟨[oA0 s0 a',oA1 a',oA2 a',[.str last],[.str [44]],[.int .i64 0]],tkA a',[]⟩:=by
   exact dropP_of (Nat.lt_add_one 0) rfl (inAm s0 a' last)
  have h3:=rangeA_pan (call:=lim cfg) (A:=a75) (T:=T) (ps:=[11]) (a:=ra75_0) (b:=rb75_0) (H:=⟨[oA0 s0 ([],0),oA1 ([],0),oA2 ([],0),[.str s],[.str [44]],[.int .i64 0]],[],[]⟩) h1 rfl h2
  rw[←hfv]at h3
  exact⟨_,runL_rangeP rfl h3⟩
end
theorem seq1A(s0 s:List UInt8):lim cfg (.fn 76) [.str s,.str [44]] ⟨[oA0 s0 ([],0),oA1 ([],0),oA2 ([],0)],[],[]⟩=some (.ret (.func 128 [.ptr 4 0,.ptr 3 0,.ptr 5 0]),⟨[oA0 s0 ([],0),oA1 ([],0),oA2 ([],0),[.str s],[.str [44]],[.int .i64 0]],[],[]⟩):=by
 have h0:lim cfg (.fn 106) [.str s,.str [44],.int .i64 0] Heap.nil=some (.ret (.func 128 [.ptr 1 0,.ptr 0 0,.ptr 2 0]),⟨[[.str s],[.str [44]],[.int .i64 0]],[],[]⟩):=by
  rw[l106]
  exact go 60 [] trivial (.fin ((ARes.ret (AV.func (128:Nat) [AV.ptr 1 0,AV.ptr 0 0,AV.ptr 2 0]),{boxes:=[[AV.str s],[AV.str [(44:UInt8)]],[AV.int .i64 0]],toks:=[],loops:=[]:Heap})) rfl) (by kernel_rfl)
 have h1:lim cfg (.fn 106) [.str s,.str [44],.int .i64 0] ⟨[oA0 s0 ([],0),oA1 ([],0),oA2 ([],0)],[],[]⟩=some (.ret (.func 128 [.ptr 4 0,.ptr 3 0,.ptr 5 0]),⟨[oA0 s0 ([],0),oA1 ([],0),oA2 ([],0),[.str s],[.str [44]],[.int .i64 0]],[],[]⟩):=by
  rw[l106]
  exact go 60 [] trivial (.fin ((ARes.ret (AV.func (128:Nat) [AV.ptr 4 0,AV.ptr 3 0,AV.ptr 5 0]),{boxes:=[[AV.str s0],[AV.sl .full []],[AV.int .i64 ([],(0:Int)).snd],[AV.str s],[AV.str [(44:UInt8)]],[AV.int .i64 0]],toks:=[],loops:=[]:Heap})) rfl) (by kernel_rfl)
 have hd:Does cfg (.call (.c (.func 106 [])) [.c (.str s),.c (.str [44]),.c (.int .i64 0)]) ⟨[oA0 s0 ([],0),oA1 ([],0),oA2 ([],0)],[],[]⟩ (.func 128 [.ptr 4 0,.ptr 3 0,.ptr 5 0]) ⟨[oA0 s0 ([],0),oA1 ([],0),oA2 ([],0),[.str s],[.str [44]],[.int .i64 0]],[],[]⟩:=
  does_callN h0 rfl h1 rfl rfl
 rw[l76]
 exact go 60 [] trivial (.effY (show Does cfg (AOp.call (Opd.c (AV.func (106:FuncId) [])) [Opd.c (AV.str s),Opd.c (AV.str [(44:UInt8)]),Opd.c (AV.int .i64 0)]) {boxes:=[oA0 s0 ([],(0:Int)),oA1 ([],(0:Int)),oA2 ([],(0:Int))],toks:=[],loops:=[]:Heap} (AV.func (128:FuncId) [AV.ptr 4 0,AV.ptr 3 0,AV.ptr 5 0]) {boxes:=[oA0 s0 ([],(0:Int)),oA1 ([],(0:Int)),oA2 ([],(0:Int)),[AV.str s],[AV.str [(44:UInt8)]],[AV.int .i64 0]],toks:=[],loops:=[]:Heap}from hd)<|.fin ((ARes.ret (AV.func (128:Nat) [AV.ptr 4 0,AV.ptr 3 0,AV.ptr 5 0]),{boxes:=[[AV.str s0],[AV.sl .full []],[AV.int .i64 ([],(0:Int)).snd],[AV.str s],[AV.str [(44:UInt8)]],[AV.int .i64 0]],toks:=[],loops:=[]:Heap})) rfl) (by kernel_rfl)
theorem fold_all:∀(ps:List (List UInt8))(l:List Amount)(ov:Int)(h0:ov=0∨ov=5),foldE collectA (l,ov) ps=(allA ps).map fun kvs=>(l++kvs.map amtC,if ov=5∨kvs.any tooA=true then 5 else 0)
 |[],l,ov,h0=>by
  simp only[foldE,allA,Option.map_some,List.map_nil,List.append_nil,List.any_nil]
  rcases h0 with rfl|rfl<;>rfl
 |w::ps,l,ov,h0=>by
  simp only[foldE,allA,collectA]
  cases hf:formA w with
  |none=>rfl
  |some kv=>
   obtain⟨-,-,e3⟩:=form_some hf
   have hn:(numA kv.2).2=if tooA kv=true then 5 else 0:=by
    unfold numA tooA
    rw[if_pos e3]
    by_cases hv:valN 0 kv.2<9223372036854775808
    ·rw[if_pos hv,if_neg (by simp;omega)]
    ·rw[if_neg hv,if_pos (by simp;omega)]
   simp only[Option.map_some]
   rw[hn]
   have h5:(if(if tooA kv=true then(5:Int)else 0)>ov then(if tooA kv=true then(5:Int)else 0)else ov)=0∨(if(if tooA kv=true then(5:Int)else 0)>ov then(if tooA kv=true then(5:Int)else 0)else ov)=5:=by
    rcases h0 with rfl|rfl<;>by_cases ht:tooA kv=true<;>simp[ht]
   rw[fold_all ps _ _ h5]
   cases allA ps with
   |none=>rfl
   |some kvs=>
    simp only[Option.map_some,Option.some.injEq,Prod.mk.injEq,List.map_cons,List.append_assoc,List.cons_append,List.nil_append,true_and,List.any_cons]
    rcases h0 with rfl|rfl<;>by_cases ht:tooA kv=true<;>first|(simp[ht];done)|grind
theorem amt_small{kvs:List (List UInt8×List UInt8)}(hd:∀p∈kvs,digB p.2=true)(h:kvs.any tooA=false):kvs.map amtC=kvs.map amtA:=by
 refine List.map_congr_left fun kv hkv=> ?_
 have ht:tooA kv=false:=by simpa using List.any_eq_false.1 h kv hkv
 have hv:valN 0 kv.2<9223372036854775808:=by
  have:¬9223372036854775808≤valN 0 kv.2:=by simpa[tooA]using ht
  omega
 unfold amtC amtA numA
 rw[if_pos (hd kv hkv),if_pos hv]
theorem tryA'(s:List UInt8)(hl:s.length≤1000)(hs:¬s=[45]):
 (∃l:List Amount,readA s=(l,0)∧∃last,lim cfg (.fn 74) [.func 75 [.ptr 0 0,.ptr 1 0]] ⟨[[.str s],[.sl .full []]],[],[]⟩=some (.ret (.int .i64 0),⟨[[.str s],[rowF encA l],[.int .i64 0],[.str last],[.str [44]],[.int .i64 0]],tkR encA l,[]⟩))∨
 (∃e:Int,e≠0∧readA s=([],e)∧∃H',lim cfg (.fn 74) [.func 75 [.ptr 0 0,.ptr 1 0]] ⟨[[.str s],[.sl .full []]],[],[]⟩=some (.ret (.int .i64 e),H')):=by
 obtain⟨v0,H0,h0,hn0⟩:=seq0Taint s
 have hd:Does cfg (.call (.c (.func 76 [])) [.c (.str s),.c (.str [44])]) ⟨[oA0 s ([],0),oA1 ([],0),oA2 ([],0)],[],[]⟩ (.func 128 [.ptr 4 0,.ptr 3 0,.ptr 5 0]) ⟨[oA0 s ([],0),oA1 ([],0),oA2 ([],0),[.str s],[.str [44]],[.int .i64 0]],[],[]⟩:=
  does_callN h0 hn0 (seq1A s s) rfl rfl
 have clo:∀R,(∀T(hT:Has T [(0,.ptr 0 0),(1,.ptr 1 0),(2,.ptr 2 0),(10,.func 128 [.ptr 4 0,.ptr 3 0,.ptr 5 0])]),Goes cfg a75 kr75_0 T ⟨[oA0 s ([],0),oA1 ([],0),oA2 ([],0),[.str s],[.str [44]],[.int .i64 0]],[],[]⟩ R)→
  ∃r,lim cfg (.fn 75) [.ptr 0 0,.ptr 1 0] ⟨[[.str s],[.sl .full []]],[],[]⟩=some r∧R r:=by
  intro R h
  rw[l75]
  have key:Goes cfg a75 [.c c75] (initEnv [.ptr 0 0,.ptr 1 0]) ⟨[[.str s],[.sl .full []]],[],[]⟩ R:=by
   exact goG 60 [] trivial (.effY (show Does cfg (.call (.c (.func (76:FuncId) [])) [.c (.str s),.c (.str [(44:UInt8)])]) {boxes:=[oA0 s ([],(0:Int)),oA1 ([],(0:Int)),oA2 ([],(0:Int))],toks:=[],loops:=[]:Heap} (.func (128:FuncId) [.ptr 4 0,.ptr 3 0,.ptr 5 0]) {boxes:=[oA0 s ([],(0:Int)),oA1 ([],(0:Int)),oA2 ([],(0:Int)),[.str s],[.str [(44:UInt8)]],[.int .i64 0]],toks:=[],loops:=[]:Heap}from hd)<|.cutQ kr75_0 [(0,.ptr 0 0),(1,.ptr 1 0),(2,.ptr 2 0),(10,.func (128:Nat) [.ptr 4 0,.ptr 3 0,.ptr 5 0])] ({boxes:=[[.str s],[.sl .full []],[.int .i64 ([],(0:Int)).snd],[.str s],[.str [(44:UInt8)]],[.int .i64 0]],toks:=[],loops:=[]:Heap}) (fun T hT=>(h T hT))) (by kernel_rfl)
  exact key
 have er:readA s=(match allA (parts 44 s)with
  |none=>([],2)
  |some l=>if l.any tooA then([],5)else if ckV (l.map amtA)=0 then(l.map amtA,0)else([],ckV (l.map amtA))):=if_neg hs
 have ef:=fold_all (parts 44 s) [] 0 (.inl rfl)
 cases ha:allA (parts 44 s)with
 |none=>
  rw[ha]at ef er
  right
  obtain⟨r,h1,h2⟩:=clo (fun r=>r.1=.pan (stopV 2)) (fun T hT=>by
   obtain⟨H',e⟩:=(rgAm s s hl T hT).2 ef
   exact⟨_,e,rfl⟩)
  obtain⟨x,H'⟩:=r
  simp only at h2
  subst h2
  exact⟨2,by decide,er,H',by rw[lim_try rfl,h1];rfl⟩
 |some kvs=>
  rw[ha]at ef er
  have hdig:∀p∈kvs,digB p.2=true:=fun p hp=>((all_some ha).2 p hp).1
  simp only[Option.map_some,List.nil_append]at ef er
  by_cases ht:kvs.any tooA=true
  ·rw[if_pos ht]at er
   rw[if_pos (.inr ht)]at ef
   right
   obtain⟨r,h1,h2⟩:=clo (fun r=>r.1=.pan (stopV 5)) (fun T hT=>by
    obtain⟨last,e⟩:=(rgAm s s hl T hT).1 _ ef
    have hst:Pans cfg 79 [.int .i64 5] (stopV 5):=stop_pan (by decide)
    have key:Goes cfg a75 kr75_0.tail T ⟨[oA0 s (kvs.map amtC,5),oA1 (kvs.map amtC,5),oA2 (kvs.map amtC,5),[.str last],[.str [44]],[.int .i64 0]],tkA (kvs.map amtC,5),[]⟩ (fun r=>r.1=.pan (stopV 5)):=by
     exact let ζ1:List AV:=[.int .i64 (List.map amtC kvs,(5:Int)).snd];goG 60 _ hT (.callP (ζ1) ({boxes:=[[.str s],[.sl (skF (List.map amtC kvs,(5:Int)).fst) (List.map encA (List.map amtC kvs,(5:Int)).fst)],ζ1,[.str last],[.str [(44:UInt8)]],[.int .i64 0]],toks:=tkA (List.map amtC kvs,(5:Int)),loops:=[]:Heap}) (show Pans cfg (79:FuncId) [.int .i64 5] (stopV (5:Int))from hst) ⟨rfl,rfl⟩ rfl rfl) (by kernel_rfl)
    obtain⟨r,k1,k2⟩:=key
    exact⟨r,e.trans k1,k2⟩)
   obtain⟨x,H'⟩:=r
   simp only at h2
   subst h2
   exact⟨5,by decide,er,H',by rw[lim_try rfl,h1];rfl⟩
  ·rw[if_neg ht]at er
   rw[if_neg (by simp[ht])]at ef
   rw[amt_small hdig (by simpa using ht)]at ef
   have hg:=ckV_any (kvs.map amtA)
   generalize kvs.map amtA=l at er ef hg
   by_cases hc:ckV l=0
   ·rw[if_pos hc]at er
    rw[hc]at hg
    left
    obtain⟨r,h1,h2⟩:=clo (fun r=>∃last,r=(.ret (.tuple []),⟨[oA0 s (l,0),oA1 (l,0),oA2 (l,0),[.str last],[.str [44]],[.int .i64 0]],tkA (l,0),[]⟩)) (fun T hT=>by
     obtain⟨last,e⟩:=(rgAm s s hl T hT).1 _ ef
     have key:Goes cfg a75 kr75_0.tail T ⟨[oA0 s (l,0),oA1 (l,0),oA2 (l,0),[.str last],[.str [44]],[.int .i64 0]],tkA (l,0),[]⟩ (fun r=>r=(.ret (.tuple []),⟨[oA0 s (l,0),oA1 (l,0),oA2 (l,0),[.str last],[.str [44]],[.int .i64 0]],tkA (l,0),[]⟩)):=by
      exact let ζ1:List AV:=[.sl (skF (l,(0:Int)).fst) (List.map encA (l,(0:Int)).fst)];goG 60 _ hT (.callI stop_ok<|.callG (ζ1) (.int .i64 0) (show Gives cfg (15:FuncId) [.sl .sh (l.map encA)] (.int .i64 0)from hg) Shuts.p ⟨rfl,rfl⟩<|.callI stop_ok<|.fin ((.ret (.tuple []),{boxes:=[[.str s],ζ1,[.int .i64 (l,(0:Int)).snd],[.str last],[.str [(44:UInt8)]],[.int .i64 0]],toks:=tkA (l,(0:Int)),loops:=[]:Heap})) rfl) (by kernel_rfl)
     obtain⟨r,k1,k2⟩:=key
     exact⟨r,e.trans k1,last,k2⟩)
    obtain⟨last,rfl⟩:=h2
    exact⟨l,er,last,by rw[lim_try rfl,h1];rfl⟩
   ·rw[if_neg hc]at er
    right
    obtain⟨r,h1,h2⟩:=clo (fun r=>r.1=.pan (stopV (ckV l))) (fun T hT=>by
     obtain⟨last,e⟩:=(rgAm s s hl T hT).1 _ ef
     have hst:=stop_pan hc
     have key:Goes cfg a75 kr75_0.tail T ⟨[oA0 s (l,0),oA1 (l,0),oA2 (l,0),[.str last],[.str [44]],[.int .i64 0]],tkA (l,0),[]⟩ (fun r=>r.1=.pan (stopV (ckV l))):=by
      exact let ζ1:List AV:=[.sl (skF (l,(0:Int)).fst) (List.map encA (l,(0:Int)).fst)];goG 60 _ hT (.callI stop_ok<|.callG (ζ1) (.int .i64 (ckV l)) (show Gives cfg (15:FuncId) [.sl .sh (l.map encA)] (.int .i64 (ckV l))from hg) Shuts.p ⟨rfl,rfl⟩<|.callP ([.int .i64 (ckV l)]) ({boxes:=[[.str s],ζ1,[.int .i64 (l,(0:Int)).snd],[.str last],[.str [(44:UInt8)]],[.int .i64 0]],toks:=tkA (l,(0:Int)),loops:=[]:Heap}) (show Pans cfg (79:FuncId) [.int .i64 (ckV l)] (stopV (ckV l))from hst) ⟨rfl,rfl⟩ rfl rfl) (by kernel_rfl)
     obtain⟨r,k1,k2⟩:=key
     exact⟨r,e.trans k1,k2⟩)
    obtain⟨x,H'⟩:=r
    simp only at h2
    subst h2
    exact⟨ckV l,hc,er,H',by rw[lim_try rfl,h1];rfl⟩
theorem readA_any(s:List UInt8)(hl:s.length≤1000):Gives cfg 32 [.str s] (.tuple [rowF encA (readA s).1,.int .i64 (readA s).2]):=by
 refine Gives.run (l32 _ _) ?_
 by_cases hs:s=[45]
 ·subst hs
  exact goG 60 [] trivial (.tt<|.fin ((.ret (.tuple [.sl .full [],.int .i64 0]),{boxes:=[[.str [(45:UInt8)]]],toks:=[],loops:=[]:Heap})) rfl) (by kernel_rfl)
 ·rcases tryA' s hl hs with⟨l,e,last,h1⟩|⟨e,he,e1,H',h1⟩
  ·rw[e]
   have hd:Does cfg (.call (.c (.func 74 [])) [.c (.func 75 [.ptr 0 0,.ptr 1 0])]) ⟨[[.str s],[.sl .full []]],[],[]⟩ (.int .i64 0) ⟨[[.str s],[rowF encA l]],tkR encA l,[]⟩:=by
    have hd:=does_callE (xs:=[.func 75 [.ptr 0 0,.ptr 1 0]]) (caps:=[]) h1 rfl rfl
    refine Eq.mp ?_ hd
    congr 1
    cases l<;>rfl
   exact goG 60 [] trivial (.no (show(s==[(45:UInt8)])=false from Bool.eq_false_iff.2 (by simpa using hs))<|.effY (show Does cfg (.call (.c (.func (74:FuncId) [])) [.c (.func (75:FuncId) [.ptr 0 0,.ptr 1 0])]) {boxes:=[[.str s],[.sl .full []]],toks:=[],loops:=[]:Heap} (.int .i64 0) {boxes:=[[.str s],[rowF encA l]],toks:=tkR encA l,loops:=[]:Heap}from hd)<|.ff<|.fin ((.ret (.tuple [.sl (skF l) (l.map encA),.int .i64 0]),{boxes:=[[.str s],[.sl (skF l) (l.map encA)]],toks:=tkR encA l,loops:=[]:Heap})) rfl) (by kernel_rfl)
  ·rw[e1]
   have hd:=does_callE (xs:=[.func 75 [.ptr 0 0,.ptr 1 0]]) (caps:=[]) h1 rfl rfl
   generalize trunc _ _ _ H'=H2 at hd
   exact goG 60 [] trivial (.no (show(s==[(45:UInt8)])=false from Bool.eq_false_iff.2 (by simpa using hs))<|.effY (show Does cfg (.call (.c (.func (74:FuncId) [])) (List.map .c [.func (75:FuncId) [.ptr 0 0,.ptr 1 0]])) {boxes:=[[.str s],[.sl .full []]],toks:=[],loops:=[]:Heap} (shutA (.int .i64 e)) H2 from hd)<|.yes (show(e !=(0:Int))=true from(by simpa using he))<|.fin ((.ret (.tuple [.sl .full [],.int .i64 e]),H2)) rfl) (by kernel_rfl)
end Go.Aa.T
set_option linter.unusedVariables false
set_option linter.unusedSimpArgs false
set_option maxRecDepth 100000
namespace Go.Aa.T
open Go.Aa Go.Proofs
theorem sameVR_loop(a b:List Amount)(hn:a.length<9223372036854775807)(he:a.length=b.length):∀(post q:List Amount)(i:Nat)(hd:a.drop i=post)(hq:b.drop i=q)(T:Env)(hT:Has T [(0,.sl .sh (a.map encA)),(1,.sl .sh (b.map encA)),(5,.int .i64 i)]),
 Goes cfg a18 k18_0 T Heap.nil (IsRet (.bool (same2 eqA post q))):=by
 intro post
 induction post with
 |nil=>
  intro q i hd hq T hT
  have hge:=drop_ge hd
  have e:q=[]:=by rw[←hq];exact List.drop_eq_nil_of_le (by omega)
  subst e
  exact goG 60 _ hT (.len (show lenA false (.sl .sh (a.map encA))=some (.int .i64 (↑a.length))from len_map _)<|.no (decide_eq_false (p:=(↑i:Int)<(↑a.length:Int)) (by omega))<|.fin ((.ret (.bool true),{boxes:=[],toks:=[],loops:=[]:Heap})) rfl) (by kernel_rfl)
 |cons x post ih=>
  intro q i hd hq T hT
  have hlt:=drop_lt hd
  have hnx:=drop_next hd
  cases q with
  |nil=>have:=drop_ge hq;omega
  |cons y q=>
   have hnq:=drop_next hq
   exact let ζ1:Heap:={boxes:=[],toks:=[],loops:=[]:Heap};goG 60 _ hT (.len (show lenA false (.sl .sh (a.map encA))=some (.int .i64 (↑a.length))from len_map _)<|.yes (decide_eq_true (p:=(↑i:Int)<(↑a.length:Int)) (by omega))<|.idx (show idxA 2 (.sl .sh (a.map encA)) (.int .i64 ↑i)=some (.ref (encA x).cells)from idx_row hd (by rfl))<|.idx (show idxA 2 (.sl .sh (b.map encA)) (.int .i64 ↑i)=some (.ref (encA y).cells)from idx_row hq (by rfl))<|.split ((if true=true then !(x.name==y.name&&(x.n==y.n&&true))else x.name==y.name&&(x.n==y.n&&true))=true) (fun h1=>.yes (show(if true=true then !(x.name==y.name&&(x.n==y.n&&true))else x.name==y.name&&(x.n==y.n&&true))=true from h1)<|.fin ((.ret (.bool false),ζ1)) (by simp only[IsRet];grind[same2,eqA])) (fun h1=>.no (show(if true=true then !(x.name==y.name&&(x.n==y.n&&true))else x.name==y.name&&(x.n==y.n&&true))=false from Bool.eq_false_iff.2 h1)<|.bin (show binA .add (.int .i64 ↑i) (.int .i64 1)=some (.int .i64 (↑(i+1)))from inc_i (by omega))<|.cutQ k18_0 [(0,.sl .sh (a.map encA)),(1,.sl .sh (b.map encA)),(5,.int .i64 (↑(i+1)))] (ζ1) (fun T hT=>(ih (q) (i+(1:Nat)) hnx hnq T hT).to (by grind[same2,eqA])))) (by kernel_rfl)
theorem sameVR(a b:List Amount)(hn:a.length<9223372036854775807):Gives cfg 18 [.sl .sh (a.map encA),.sl .sh (b.map encA)] (.bool (same2 eqA a b)):=by
 refine Gives.run (l18 _ _) ?_
 by_cases he:a.length=b.length
 ·have h:=sameVR_loop a b hn he a b 0 rfl rfl
  exact goG 60 [] trivial (.len (show lenA false (.sl .sh (a.map encA))=some (.int .i64 (↑a.length))from len_map _)<|.len (show lenA false (.sl .sh (b.map encA))=some (.int .i64 (↑b.length))from len_map _)<|.no (show((↑a.length:Int) !=(↑b.length:Int))=false from Bool.eq_false_iff.2 (by simp[he]))<|.cutQ k18_0 [(0,.sl .sh (a.map encA)),(1,.sl .sh (b.map encA)),(5,.int .i64 0)] ({boxes:=[],toks:=[],loops:=[]:Heap}) (fun T hT=>(h T hT))) (by kernel_rfl)
 ·rw[same2_len he]
  exact goG 60 [] trivial (.len (show lenA false (.sl .sh (a.map encA))=some (.int .i64 (↑a.length))from len_map _)<|.len (show lenA false (.sl .sh (b.map encA))=some (.int .i64 (↑b.length))from len_map _)<|.yes (show((↑a.length:Int) !=(↑b.length:Int))=true from(by simp;omega))<|.fin ((.ret (.bool false),{boxes:=[],toks:=[],loops:=[]:Heap})) rfl) (by kernel_rfl)
end Go.Aa.T
set_option linter.unusedVariables false
set_option linter.unusedSimpArgs false
set_option maxRecDepth 100000
namespace Go.Aa.T
open Go.Aa Go.Proofs
theorem known12':Gives cfg 12 [] (.bool true):=by
 obtain⟨H,h⟩:=known_ret12
 exact Gives.of h
end Go.Aa.T
set_option linter.unusedVariables false
set_option linter.unusedSimpArgs false
set_option maxRecDepth 100000
namespace Go.Aa.T
open Go.Aa Go.Proofs
theorem same_eq(l:List Amount)(e:Int)(hl:l.length≤20):Gives cfg 23 [.sl .sh (l.map encA),.int .i64 e,.sl .sh (l.map encA),.int .i64 e] (.bool true):=by
 refine Gives.run (l23 _ _) ?_
 have o:=ofA_any l hl
 have s:=sameVR l l (by omega)
 rw[same2_refl eqA_iff]at s
 exact let ζ1:List AV:=[.sl .sh (l.map encA),.sl .sh (l.map encA)];goG 60 [] trivial (.yes (show(e==e)=true from(by simp+zetaDelta))<|.callG ([.sl .sh (l.map encA)]) (.sl .sh (l.map encA)) (show Gives cfg (14:FuncId) [.sl .sh (l.map encA)] (rowS Heap.nil (l.map encA))from o) ⟨rfl,rfl⟩ Res.p<|.callK (ζ1) (.bool true) (show Gives cfg (18:FuncId) ζ1 (.bool true)from s)<|.fin ((.ret (.bool true),{boxes:=[],toks:=[],loops:=[]:Heap})) rfl) (by kernel_rfl)
end Go.Aa.T
set_option linter.unusedVariables false
set_option linter.unusedSimpArgs false
set_option maxRecDepth 100000
namespace Go.Aa.T
open Go.Aa Go.Proofs
theorem ckV_len{l:List Amount}(h:ckV l=0):l.length≤8:=by
 unfold ckV at h
 split at h
 ·assumption
 ·cases h
theorem name_len{s:List UInt8}(h:isName s=true):s.length≤12:=by
 simp only[isName,Bool.and_eq_true,decide_eq_true_eq]at h
 exact h.1.2
theorem ckV_few{l:List Amount}(h:ckV l=0):fewA l=true:=by
 have hn:=ckV_len h
 simp only[fewA,Bool.and_eq_true,decide_eq_true_eq,List.all_eq_true]
 refine⟨by omega,fun x hx=> ?_⟩
 have hg:=ckV_good h x hx
 simp only[goodA,Bool.and_eq_true]at hg
 have:=name_len hg.1
 simp only[short1,decide_eq_true_eq]
 omega
theorem join_partsC(c:UInt8):∀s:List UInt8,Lib.join (parts c s) [c]=s
 |[]=>by simp[parts,Lib.join_cons,Lib.joinTail]
 |b::r=>by
  have ih:=join_partsC c r
  unfold parts
  split
  ·rename_i hb
   subst hb
   cases hp:parts b r with
   |nil=>exact absurd hp (parts_ne _ _)
   |cons x xs=>
    rw[hp,Lib.join_cons]at ih
    rw[Lib.join_cons,tail_consC,ih];rfl
  ·cases hp:parts c r with
   |nil=>exact absurd hp (parts_ne _ _)
   |cons x xs=>
    rw[hp,Lib.join_cons]at ih
    simp only[Lib.join_cons,List.cons_append,ih]
theorem all_text:∀{ps:List (List UInt8)}{l:List (List UInt8×List UInt8)},allA ps=some l→l.any tooA=false→(l.map amtA).map aText=ps∧∀x∈l.map amtA,-9223372036854775808≤x.n∧x.n≤9223372036854775807
 |[],l,h,_=>by cases h;simp
 |w::ws,l,h,ht=>by
  simp only[allA]at h
  cases hf:formA w with
  |none=>rw[hf]at h;cases h
  |some kv=>
   rw[hf]at h
   cases ha:allA ws with
   |none=>rw[ha]at h;cases h
   |some l'=>
    rw[ha]at h
    cases h
    simp only[List.any_cons,Bool.or_eq_false_iff]at ht
    obtain⟨i1,i2⟩:=all_text ha ht.2
    obtain⟨e1,-,e3⟩:=form_some hf
    have hv:valN 0 kv.2<9223372036854775808:=by
     have:¬9223372036854775808≤valN 0 kv.2:=by simpa[tooA]using ht.1
     omega
    have e:aText (amtA kv)=w:=by
     simp only[aText,amtA]
     rw[itoa_nat (by omega),val_dec' e3,e1]
     simp
    refine⟨by rw[List.map_cons,List.map_cons,e,i1],fun x hx=> ?_⟩
    rw[List.map_cons]at hx
    rcases List.mem_cons.1 hx with rfl|hx
    ·simp only[amtA];omega
    ·exact i2 x hx
theorem readA_told{s:List UInt8}(h:(readA s).2=0):textOf aText (readA s).1=s∧smallI (readA s).1∧ckV (readA s).1=0:=by
 unfold readA at h⊢
 split
 ·rename_i hs
  exact⟨by rw[hs];rfl,fun x hx=>by simp at hx,rfl⟩
 ·rename_i hs
  rw[if_neg hs]at h
  cases ha:allA (parts 44 s)with
  |none=>rw[ha]at h;cases h
  |some l=>
   rw[ha]at h
   simp only at h⊢
   by_cases ht:l.any tooA=true
   ·rw[if_pos ht]at h;cases h
   ·rw[if_neg ht]at h⊢
    by_cases hc:ckV (l.map amtA)=0
    ·rw[if_pos hc]at h⊢
     obtain⟨i1,i2⟩:=all_text ha (by simpa using ht)
     refine⟨?_,i2,hc⟩
     have hne:l.map amtA≠[]:=by
      intro e
      rw[e]at i1
      exact parts_ne 44 s i1.symm
     have e:textOf aText (l.map amtA)=Lib.join ((l.map amtA).map aText) [44]:=by
      cases hl:l.map amtA with
      |nil=>exact absurd hl hne
      |cons x r=>rfl
     rw[e,i1,join_partsC]
    ·rw[if_neg hc]at h;exact absurd h hc
theorem readA_len(s:List UInt8):(readA s).1.length≤20:=by
 by_cases h:(readA s).2=0
 ·have:=(vOk (readA_told h).2.2).len
  omega
 ·unfold readA at h⊢
  split
  ·simp
  ·rename_i hs
   rw[if_neg hs]at h
   split
   ·simp
   ·rename_i l hl
    rw[hl]at h
    simp only at h
    split
    ·simp
    ·rename_i ht
     rw[if_neg ht]at h
     split
     ·rename_i hc;rw[if_pos hc]at h;exact absurd rfl h
     ·simp
theorem resWords(s:List UInt8)(v:List Amount)(rv:rgA v):Gives cfg 4 [.str s,.sl .sh (v.map encA)] (.bool true):=by
 refine Gives.run (l4 _ _) ?_
 by_cases hs:300<s.length
 ·exact goG 120 [] trivial (.callI known12'<|.ff<|.len (show lenA true (.str s)=some (.int .i64 (↑s.length))from len_str _)<|.yes (decide_eq_true (p:=(300:Int)<(↑s.length:Int)) (by omega))<|.tt<|.fin ((.ret (.bool true),{boxes:=[],toks:=[],loops:=[]:Heap})) rfl) (by kernel_rfl)
 ·have f1:=fewA_any v
  cases h1:fewA v with
  |false=>
   rw[h1]at f1
   exact goG 120 [] trivial (.callI known12'<|.ff<|.len (show lenA true (.str s)=some (.int .i64 (↑s.length))from len_str _)<|.no (decide_eq_false (p:=(300:Int)<(↑s.length:Int)) (by omega))<|.callI f1<|.tt<|.fin ((.ret (.bool true),{boxes:=[],toks:=[],loops:=[]:Heap})) rfl) (by kernel_rfl)
  |true=>
   rw[h1]at f1
   have lv:=fewA_len h1
   have pa:=readA_any s (by omega)
   have pr:=fun H=>readA_ref s (by omega) H
   have se:=same_eq (readA s).1 (readA s).2 (readA_len s)
   have n1:=res_name s
   have n2:=name_any s
   have o1:=ofA_any v lv
   have k1:=ckV_ref v
   have g1:=getQ_any v s (by omega)
   have g2:=getQ_ref v s (by omega)
   generalize getQ v s=q at g1 g2
   generalize ckV v=c at k1
   by_cases e0:(readA s).2=0
   ·obtain⟨t1,t2,t3⟩:=readA_told e0
    have ta:=aText_any (readA s).1 (ckV_few t3) t2
    rw[t1]at ta
    generalize readA s=r at pa pr se ta e0
    obtain⟨l,e⟩:=r
    simp only at pa pr se ta e0
    subst e0
    cases hn:isName s<;>(rw[hn]at n1 n2)
    ·by_cases hc:c=0
     ·subst hc
      exact let ζ1:List AV:=[.sl .sh (v.map encA),.str s];let ζ2:Heap:={boxes:=[],toks:=[],loops:=[]:Heap};let ζ3:List AV:=[.sl .sh (l.map encA),.int .i64 0,.sl .sh (l.map encA),.int .i64 0];let ζ4:List AV:=[.sl .sh (l.map encA),.int .i64 0];goG 200 [] trivial (.callI known12'<|.ff<|.len (show lenA true (.str s)=some (.int .i64 (↑s.length))from len_str _)<|.no (decide_eq_false (p:=(300:Int)<(↑s.length:Int)) (by omega))<|.callI f1<|.ff<|.callG ([.str s]) (.tuple ζ4) (show Gives cfg (32:FuncId) [.str s] (.tuple [rowF encA l,.int .i64 0])from pa) ⟨rfl,rfl⟩ Res.p<|.effY (show Does cfg (.call (.c (.func (33:FuncId) [])) [.c (.str s)]) ζ2 (.tuple ζ4) ζ2 from pr _)<|.callK (ζ3) (.bool true) (show Gives cfg (23:FuncId) ζ3 (.bool true)from se)<|.ff<|.tt<|.callI ta<|.no (show(!s==s)=false from by have hh:(s==s)=true:=(by simp+zetaDelta);simp[hh])<|.callI n1<|.callI n2<|.ff<|.callG ([.sl .sh (v.map encA)]) (.sl .sh (v.map encA)) (show Gives cfg (14:FuncId) [.sl .sh (v.map encA)] (rowS Heap.nil (v.map encA))from o1) ⟨rfl,rfl⟩ Res.p<|.callI k1<|.ff<|.callK (ζ1) (.int .i64 q) (show Gives cfg (36:FuncId) ζ1 (.int .i64 q)from g1)<|.callG ([.sl .sh (v.map encA)]) (.sl .sh (v.map encA)) (show Gives cfg (14:FuncId) [.sl .sh (v.map encA)] (rowS Heap.nil (v.map encA))from o1) ⟨rfl,rfl⟩ Res.p<|.callK (ζ1) (.int .i64 q) (show Gives cfg (37:FuncId) ζ1 (.int .i64 q)from g2)<|.fin ((.ret (.bool (q==q)),ζ2)) (by simp+zetaDelta [IsRet])) (by kernel_rfl)
     ·exact let ζ1:Heap:={boxes:=[],toks:=[],loops:=[]:Heap};let ζ2:List AV:=[.sl .sh (l.map encA),.int .i64 0,.sl .sh (l.map encA),.int .i64 0];let ζ3:List AV:=[.sl .sh (l.map encA),.int .i64 0];goG 200 [] trivial (.callI known12'<|.ff<|.len (show lenA true (.str s)=some (.int .i64 (↑s.length))from len_str _)<|.no (decide_eq_false (p:=(300:Int)<(↑s.length:Int)) (by omega))<|.callI f1<|.ff<|.callG ([.str s]) (.tuple ζ3) (show Gives cfg (32:FuncId) [.str s] (.tuple [rowF encA l,.int .i64 0])from pa) ⟨rfl,rfl⟩ Res.p<|.effY (show Does cfg (.call (.c (.func (33:FuncId) [])) [.c (.str s)]) ζ1 (.tuple ζ3) ζ1 from pr _)<|.callK (ζ2) (.bool true) (show Gives cfg (23:FuncId) ζ2 (.bool true)from se)<|.ff<|.tt<|.callI ta<|.no (show(!s==s)=false from by have hh:(s==s)=true:=(by simp+zetaDelta);simp[hh])<|.callI n1<|.callI n2<|.ff<|.callG ([.sl .sh (v.map encA)]) (.sl .sh (v.map encA)) (show Gives cfg (14:FuncId) [.sl .sh (v.map encA)] (rowS Heap.nil (v.map encA))from o1) ⟨rfl,rfl⟩ Res.p<|.callI k1<|.yes (show(c !=(0:Int))=true from(by simpa using hc))<|.fin ((.ret (.bool true),ζ1)) rfl) (by kernel_rfl)
    ·by_cases hc:c=0
     ·subst hc
      exact let ζ1:List AV:=[.sl .sh (v.map encA),.str s];let ζ2:Heap:={boxes:=[],toks:=[],loops:=[]:Heap};let ζ3:List AV:=[.sl .sh (l.map encA),.int .i64 0,.sl .sh (l.map encA),.int .i64 0];let ζ4:List AV:=[.sl .sh (l.map encA),.int .i64 0];goG 200 [] trivial (.callI known12'<|.ff<|.len (show lenA true (.str s)=some (.int .i64 (↑s.length))from len_str _)<|.no (decide_eq_false (p:=(300:Int)<(↑s.length:Int)) (by omega))<|.callI f1<|.ff<|.callG ([.str s]) (.tuple ζ4) (show Gives cfg (32:FuncId) [.str s] (.tuple [rowF encA l,.int .i64 0])from pa) ⟨rfl,rfl⟩ Res.p<|.effY (show Does cfg (.call (.c (.func (33:FuncId) [])) [.c (.str s)]) ζ2 (.tuple ζ4) ζ2 from pr _)<|.callK (ζ3) (.bool true) (show Gives cfg (23:FuncId) ζ3 (.bool true)from se)<|.ff<|.tt<|.callI ta<|.no (show(!s==s)=false from by have hh:(s==s)=true:=(by simp+zetaDelta);simp[hh])<|.callI n1<|.callI n2<|.ff<|.callG ([.sl .sh (v.map encA)]) (.sl .sh (v.map encA)) (show Gives cfg (14:FuncId) [.sl .sh (v.map encA)] (rowS Heap.nil (v.map encA))from o1) ⟨rfl,rfl⟩ Res.p<|.callI k1<|.ff<|.callK (ζ1) (.int .i64 q) (show Gives cfg (36:FuncId) ζ1 (.int .i64 q)from g1)<|.callG ([.sl .sh (v.map encA)]) (.sl .sh (v.map encA)) (show Gives cfg (14:FuncId) [.sl .sh (v.map encA)] (rowS Heap.nil (v.map encA))from o1) ⟨rfl,rfl⟩ Res.p<|.callK (ζ1) (.int .i64 q) (show Gives cfg (37:FuncId) ζ1 (.int .i64 q)from g2)<|.fin ((.ret (.bool (q==q)),ζ2)) (by simp+zetaDelta [IsRet])) (by kernel_rfl)
     ·exact let ζ1:Heap:={boxes:=[],toks:=[],loops:=[]:Heap};let ζ2:List AV:=[.sl .sh (l.map encA),.int .i64 0,.sl .sh (l.map encA),.int .i64 0];let ζ3:List AV:=[.sl .sh (l.map encA),.int .i64 0];goG 200 [] trivial (.callI known12'<|.ff<|.len (show lenA true (.str s)=some (.int .i64 (↑s.length))from len_str _)<|.no (decide_eq_false (p:=(300:Int)<(↑s.length:Int)) (by omega))<|.callI f1<|.ff<|.callG ([.str s]) (.tuple ζ3) (show Gives cfg (32:FuncId) [.str s] (.tuple [rowF encA l,.int .i64 0])from pa) ⟨rfl,rfl⟩ Res.p<|.effY (show Does cfg (.call (.c (.func (33:FuncId) [])) [.c (.str s)]) ζ1 (.tuple ζ3) ζ1 from pr _)<|.callK (ζ2) (.bool true) (show Gives cfg (23:FuncId) ζ2 (.bool true)from se)<|.ff<|.tt<|.callI ta<|.no (show(!s==s)=false from by have hh:(s==s)=true:=(by simp+zetaDelta);simp[hh])<|.callI n1<|.callI n2<|.ff<|.callG ([.sl .sh (v.map encA)]) (.sl .sh (v.map encA)) (show Gives cfg (14:FuncId) [.sl .sh (v.map encA)] (rowS Heap.nil (v.map encA))from o1) ⟨rfl,rfl⟩ Res.p<|.callI k1<|.yes (show(c !=(0:Int))=true from(by simpa using hc))<|.fin ((.ret (.bool true),ζ1)) rfl) (by kernel_rfl)
   ·generalize readA s=r at pa pr se e0
    obtain⟨l,e⟩:=r
    simp only at pa pr se e0
    cases hn:isName s<;>(rw[hn]at n1 n2)
    ·by_cases hc:c=0
     ·subst hc
      exact let ζ1:List AV:=[.sl .sh (v.map encA),.str s];let ζ2:Heap:={boxes:=[],toks:=[],loops:=[]:Heap};let ζ3:List AV:=[.sl .sh (l.map encA),.int .i64 e,.sl .sh (l.map encA),.int .i64 e];let ζ4:List AV:=[.sl .sh (l.map encA),.int .i64 e];goG 200 [] trivial (.callI known12'<|.ff<|.len (show lenA true (.str s)=some (.int .i64 (↑s.length))from len_str _)<|.no (decide_eq_false (p:=(300:Int)<(↑s.length:Int)) (by omega))<|.callI f1<|.ff<|.callG ([.str s]) (.tuple ζ4) (show Gives cfg (32:FuncId) [.str s] (.tuple [rowF encA l,.int .i64 e])from pa) ⟨rfl,rfl⟩ Res.p<|.effY (show Does cfg (.call (.c (.func (33:FuncId) [])) [.c (.str s)]) ζ2 (.tuple ζ4) ζ2 from pr _)<|.callK (ζ3) (.bool true) (show Gives cfg (23:FuncId) ζ3 (.bool true)from se)<|.ff<|.no (show(e==(0:Int))=false from Bool.eq_false_iff.2 (by simpa using e0))<|.ff<|.callI n1<|.callI n2<|.ff<|.callG ([.sl .sh (v.map encA)]) (.sl .sh (v.map encA)) (show Gives cfg (14:FuncId) [.sl .sh (v.map encA)] (rowS Heap.nil (v.map encA))from o1) ⟨rfl,rfl⟩ Res.p<|.callI k1<|.ff<|.callK (ζ1) (.int .i64 q) (show Gives cfg (36:FuncId) ζ1 (.int .i64 q)from g1)<|.callG ([.sl .sh (v.map encA)]) (.sl .sh (v.map encA)) (show Gives cfg (14:FuncId) [.sl .sh (v.map encA)] (rowS Heap.nil (v.map encA))from o1) ⟨rfl,rfl⟩ Res.p<|.callK (ζ1) (.int .i64 q) (show Gives cfg (37:FuncId) ζ1 (.int .i64 q)from g2)<|.fin ((.ret (.bool (q==q)),ζ2)) (by simp+zetaDelta [IsRet])) (by kernel_rfl)
     ·exact let ζ1:Heap:={boxes:=[],toks:=[],loops:=[]:Heap};let ζ2:List AV:=[.sl .sh (l.map encA),.int .i64 e,.sl .sh (l.map encA),.int .i64 e];let ζ3:List AV:=[.sl .sh (l.map encA),.int .i64 e];goG 200 [] trivial (.callI known12'<|.ff<|.len (show lenA true (.str s)=some (.int .i64 (↑s.length))from len_str _)<|.no (decide_eq_false (p:=(300:Int)<(↑s.length:Int)) (by omega))<|.callI f1<|.ff<|.callG ([.str s]) (.tuple ζ3) (show Gives cfg (32:FuncId) [.str s] (.tuple [rowF encA l,.int .i64 e])from pa) ⟨rfl,rfl⟩ Res.p<|.effY (show Does cfg (.call (.c (.func (33:FuncId) [])) [.c (.str s)]) ζ1 (.tuple ζ3) ζ1 from pr _)<|.callK (ζ2) (.bool true) (show Gives cfg (23:FuncId) ζ2 (.bool true)from se)<|.ff<|.no (show(e==(0:Int))=false from Bool.eq_false_iff.2 (by simpa using e0))<|.ff<|.callI n1<|.callI n2<|.ff<|.callG ([.sl .sh (v.map encA)]) (.sl .sh (v.map encA)) (show Gives cfg (14:FuncId) [.sl .sh (v.map encA)] (rowS Heap.nil (v.map encA))from o1) ⟨rfl,rfl⟩ Res.p<|.callI k1<|.yes (show(c !=(0:Int))=true from(by simpa using hc))<|.fin ((.ret (.bool true),ζ1)) rfl) (by kernel_rfl)
    ·by_cases hc:c=0
     ·subst hc
      exact let ζ1:List AV:=[.sl .sh (v.map encA),.str s];let ζ2:Heap:={boxes:=[],toks:=[],loops:=[]:Heap};let ζ3:List AV:=[.sl .sh (l.map encA),.int .i64 e,.sl .sh (l.map encA),.int .i64 e];let ζ4:List AV:=[.sl .sh (l.map encA),.int .i64 e];goG 200 [] trivial (.callI known12'<|.ff<|.len (show lenA true (.str s)=some (.int .i64 (↑s.length))from len_str _)<|.no (decide_eq_false (p:=(300:Int)<(↑s.length:Int)) (by omega))<|.callI f1<|.ff<|.callG ([.str s]) (.tuple ζ4) (show Gives cfg (32:FuncId) [.str s] (.tuple [rowF encA l,.int .i64 e])from pa) ⟨rfl,rfl⟩ Res.p<|.effY (show Does cfg (.call (.c (.func (33:FuncId) [])) [.c (.str s)]) ζ2 (.tuple ζ4) ζ2 from pr _)<|.callK (ζ3) (.bool true) (show Gives cfg (23:FuncId) ζ3 (.bool true)from se)<|.ff<|.no (show(e==(0:Int))=false from Bool.eq_false_iff.2 (by simpa using e0))<|.ff<|.callI n1<|.callI n2<|.ff<|.callG ([.sl .sh (v.map encA)]) (.sl .sh (v.map encA)) (show Gives cfg (14:FuncId) [.sl .sh (v.map encA)] (rowS Heap.nil (v.map encA))from o1) ⟨rfl,rfl⟩ Res.p<|.callI k1<|.ff<|.callK (ζ1) (.int .i64 q) (show Gives cfg (36:FuncId) ζ1 (.int .i64 q)from g1)<|.callG ([.sl .sh (v.map encA)]) (.sl .sh (v.map encA)) (show Gives cfg (14:FuncId) [.sl .sh (v.map encA)] (rowS Heap.nil (v.map encA))from o1) ⟨rfl,rfl⟩ Res.p<|.callK (ζ1) (.int .i64 q) (show Gives cfg (37:FuncId) ζ1 (.int .i64 q)from g2)<|.fin ((.ret (.bool (q==q)),ζ2)) (by simp+zetaDelta [IsRet])) (by kernel_rfl)
     ·exact let ζ1:Heap:={boxes:=[],toks:=[],loops:=[]:Heap};let ζ2:List AV:=[.sl .sh (l.map encA),.int .i64 e,.sl .sh (l.map encA),.int .i64 e];let ζ3:List AV:=[.sl .sh (l.map encA),.int .i64 e];goG 200 [] trivial (.callI known12'<|.ff<|.len (show lenA true (.str s)=some (.int .i64 (↑s.length))from len_str _)<|.no (decide_eq_false (p:=(300:Int)<(↑s.length:Int)) (by omega))<|.callI f1<|.ff<|.callG ([.str s]) (.tuple ζ3) (show Gives cfg (32:FuncId) [.str s] (.tuple [rowF encA l,.int .i64 e])from pa) ⟨rfl,rfl⟩ Res.p<|.effY (show Does cfg (.call (.c (.func (33:FuncId) [])) [.c (.str s)]) ζ1 (.tuple ζ3) ζ1 from pr _)<|.callK (ζ2) (.bool true) (show Gives cfg (23:FuncId) ζ2 (.bool true)from se)<|.ff<|.no (show(e==(0:Int))=false from Bool.eq_false_iff.2 (by simpa using e0))<|.ff<|.callI n1<|.callI n2<|.ff<|.callG ([.sl .sh (v.map encA)]) (.sl .sh (v.map encA)) (show Gives cfg (14:FuncId) [.sl .sh (v.map encA)] (rowS Heap.nil (v.map encA))from o1) ⟨rfl,rfl⟩ Res.p<|.callI k1<|.yes (show(c !=(0:Int))=true from(by simpa using hc))<|.fin ((.ret (.bool true),ζ1)) rfl) (by kernel_rfl)
end Go.Aa.T
set_option linter.unusedVariables false
set_option linter.unusedSimpArgs false
set_option maxRecDepth 100000
namespace Go.Aa.T
open Go.Aa Go.Proofs
theorem map_of2{α:Type}{f:α→AV}{Q:AV→Prop}{S:α→Prop}(h:∀y,Q y→∃x,y=f x∧S x):∀(l:List AV),(∀y∈l,Q y)→∃t:List α,l=t.map f∧∀x∈t,S x
 |[],_=>⟨[],rfl,by simp⟩
 |y::l,hl=>by
  obtain⟨x,rfl,hx⟩:=h y (hl y (by simp))
  obtain⟨t,rfl,ht⟩:=map_of2 h l (fun z hz=>hl z (by simp[hz]))
  exact⟨x::t,rfl,by simpa using⟨hx,ht⟩⟩
theorem i64_range{m:Int}(h:(Lit.int .i64 m).wf=true): -9223372036854775808≤m∧m≤9223372036854775807:=by
 have h':IntKind.i64.min≤m∧m≤IntKind.i64.max:=by simpa[Lit.wf,IntKind.has]using h
 have e1:IntKind.i64.min= -9223372036854775808:=rfl
 have e2:IntKind.i64.max=9223372036854775807:=rfl
 omega
theorem tys2{R:TypeId→List AV→Prop}{f1 f2:Field}{cs:List AV}(h:Tys R (#[f1,f2]:Array Field).toList cs):∃a1 a2,cs=a1++(a2)∧R f1.type a1∧R f2.type a2:=by
 obtain⟨a1,b1,rfl,h1,a2,b2,rfl,h2,e⟩:=(show Tys R [f1,f2] cs from h)
 cases e
 exact⟨a1,a2,by simp,h1,h2⟩
theorem ty81{k:Nat}{y:AV}(h:TyV Tryz.prog (k+2) 81 y):∃x:Amount,y=encA x∧(-9223372036854775808≤x.n∧x.n≤9223372036854775807):=by
 obtain⟨cs,rfl,hh⟩:=tyv_struct Tryz.underlying81 h
 obtain⟨a1,a2,rfl,h1,h2⟩:=tys2 hh
 obtain⟨s1,rfl,-⟩:=ty_string Tryz.underlying9 h1
 obtain⟨s2,rfl,w2⟩:=ty_int Tryz.underlying2 h2
 have r2:=i64_range w2
 exact⟨⟨s1,s2⟩,rfl,r2⟩
theorem ty23{k:Nat}{y:AV}(h:TyV Tryz.prog (k+3) 23 y):∃t:List Amount,y=.sl .sh (t.map encA)∧∀x∈t,-9223372036854775808≤x.n∧x.n≤9223372036854775807:=by
 obtain⟨l,rfl,-,hl⟩:=tyv_slice Tryz.underlying23 h
 obtain⟨t,rfl,hs⟩:=map_of2 (S:=fun x:Amount=> -9223372036854775808≤x.n∧x.n≤9223372036854775807) (fun y hy=>ty81 hy) l hl
 exact⟨t,rfl,hs⟩
end Go.Aa.T
set_option linter.unusedVariables false
set_option linter.unusedSimpArgs false
set_option maxRecDepth 100000
namespace Go.Aa.T
open Go.Aa Go.Proofs
theorem law4(xs:List AV)(h:TyAll Tryz.prog 5 [9,23] xs)(hz:SzAll Tryz.prog [9,23] xs):∃H',lim cfg (.fn 4) xs Heap.nil=some (.ret (.bool true),H'):=by
 obtain⟨x1,x2,rfl,h1,h2⟩:=tyall_2 h
 obtain⟨s,rfl,-⟩:=tyv_string (k:=4) Tryz.underlying9 h1
 obtain⟨v,rfl,rv⟩:=ty23 (k:=2) h2
 exact(resWords s v rv).ret
end Go.Aa.T
namespace Go.Proofs
open Go.Shelf
def Tryz.lays160_ren:Go.Shelf.Ren:=⟨fun|160=>83|232=>110|231=>109|227=>111|234=>113|233=>112|236=>115|235=>114|228=>134|271=>136|151=>135|197=>129|120=>160|152=>159|260=>149|137=>181|119=>182|224=>152|225=>151|217=>150|266=>175|n=>n,fun|9=>9|4=>4|3=>3|5=>5|117=>152|116=>151|0=>0|124=>155|21=>21|105=>167|46=>165|119=>203|139=>206|138=>205|n=>n,fun|3=>4|4=>5|n=>n⟩
theorem Tryz.lays160:Go.Proofs.Lays.n160 Tryz.prog Tryz.lays160_ren:={
 mixed:=by kernel_rfl
 f119:=Tryz.func182.trans (congrArg some (by kernel_rfl))
 f120:=Tryz.func160.trans (congrArg some (by kernel_rfl))
 f137:=Tryz.func181.trans (congrArg some (by kernel_rfl))
 f151:=Tryz.func135.trans (congrArg some (by kernel_rfl))
 f152:=Tryz.func159.trans (congrArg some (by kernel_rfl))
 f160:=Tryz.func83.trans (congrArg some (by kernel_rfl))
 f197:=Tryz.func129.trans (congrArg some (by kernel_rfl))
 f217:=Tryz.func150.trans (congrArg some (by kernel_rfl))
 f224:=Tryz.func152.trans (congrArg some (by kernel_rfl))
 f225:=Tryz.func151.trans (congrArg some (by kernel_rfl))
 f227:=Tryz.func111.trans (congrArg some (by kernel_rfl))
 f228:=Tryz.func134.trans (congrArg some (by kernel_rfl))
 f231:=Tryz.func109.trans (congrArg some (by kernel_rfl))
 f232:=Tryz.func110.trans (congrArg some (by kernel_rfl))
 f233:=Tryz.func112.trans (congrArg some (by kernel_rfl))
 f234:=Tryz.func113.trans (congrArg some (by kernel_rfl))
 f235:=Tryz.func114.trans (congrArg some (by kernel_rfl))
 f236:=Tryz.func115.trans (congrArg some (by kernel_rfl))
 f260:=Tryz.func149.trans (congrArg some (by kernel_rfl))
 f266:=Tryz.func175.trans (congrArg some (by kernel_rfl))
 f271:=Tryz.func136.trans (congrArg some (by kernel_rfl))
 t0:=Tryz.underlying0
 a0:=Tryz.isAgg0
 z0:=Tryz.sizeOf0
 v0:=Tryz.zeroValue0
 t3:=Tryz.underlying3
 a3:=Tryz.isAgg3
 z3:=Tryz.sizeOf3
 v3:=Tryz.zeroValue3
 t4:=Tryz.underlying4
 a4:=Tryz.isAgg4
 z4:=Tryz.sizeOf4
 v4:=Tryz.zeroValue4
 t5:=Tryz.underlying5
 a5:=Tryz.isAgg5
 z5:=Tryz.sizeOf5
 v5:=Tryz.zeroValue5
 t9:=Tryz.underlying9
 a9:=Tryz.isAgg9
 z9:=Tryz.sizeOf9
 v9:=Tryz.zeroValue9
 t21:=Tryz.underlying21
 a21:=Tryz.isAgg21
 z21:=Tryz.sizeOf21
 v21:=Tryz.zeroValue21
 t46:=Tryz.underlying165
 a46:=Tryz.isAgg165
 z46:=Tryz.sizeOf165
 v46:=Tryz.zeroValue165
 t105:=Tryz.underlying167
 a105:=Tryz.isAgg167
 z105:=Tryz.sizeOf167
 v105:=Tryz.zeroValue167
 t116:=Tryz.underlying151
 a116:=Tryz.isAgg151
 z116:=Tryz.sizeOf151
 t117:=Tryz.underlying152
 a117:=Tryz.isAgg152
 z117:=Tryz.sizeOf152
 v117:=Tryz.zeroValue152
 t119:=Tryz.underlying203
 a119:=Tryz.isAgg203
 z119:=Tryz.sizeOf203
 t124:=Tryz.underlying155
 a124:=Tryz.isAgg155
 z124:=Tryz.sizeOf155
 v124:=Tryz.zeroValue155
 t138:=Tryz.underlying205
 a138:=Tryz.isAgg205
 z138:=Tryz.sizeOf205
 v138:=Tryz.zeroValue205
 t139:=Tryz.underlying206
 a139:=Tryz.isAgg206
 z139:=Tryz.sizeOf206
 v139:=Tryz.zeroValue206
 g3:=by kernel_rfl
 g4:=by kernel_rfl}
def Tryz.lays156_ren:Go.Shelf.Ren:=⟨fun|156=>54|165=>95|166=>96|169=>97|240=>122|241=>123|276=>144|277=>145|n=>n,fun|31=>88|9=>9|3=>3|4=>4|0=>0|20=>20|72=>127|76=>131|70=>125|37=>83|75=>130|127=>162|164=>180|5=>5|80=>133|n=>n,fun|n=>n⟩
theorem Tryz.lays156:Go.Proofs.Lays.n156 Tryz.prog Tryz.lays156_ren:={
 mixed:=by kernel_rfl
 f156:=Tryz.func54.trans (congrArg some (by kernel_rfl))
 f165:=Tryz.func95.trans (congrArg some (by kernel_rfl))
 f166:=Tryz.func96.trans (congrArg some (by kernel_rfl))
 f169:=Tryz.func97.trans (congrArg some (by kernel_rfl))
 f240:=Tryz.func122.trans (congrArg some (by kernel_rfl))
 f241:=Tryz.func123.trans (congrArg some (by kernel_rfl))
 f276:=Tryz.func144.trans (congrArg some (by kernel_rfl))
 f277:=Tryz.func145.trans (congrArg some (by kernel_rfl))
 t0:=Tryz.underlying0
 a0:=Tryz.isAgg0
 z0:=Tryz.sizeOf0
 v0:=Tryz.zeroValue0
 t3:=Tryz.underlying3
 a3:=Tryz.isAgg3
 z3:=Tryz.sizeOf3
 v3:=Tryz.zeroValue3
 t4:=Tryz.underlying4
 a4:=Tryz.isAgg4
 z4:=Tryz.sizeOf4
 v4:=Tryz.zeroValue4
 t9:=Tryz.underlying9
 a9:=Tryz.isAgg9
 z9:=Tryz.sizeOf9
 v9:=Tryz.zeroValue9
 t20:=Tryz.underlying20
 a20:=Tryz.isAgg20
 z20:=Tryz.sizeOf20
 v20:=Tryz.zeroValue20
 t31:=Tryz.underlying88
 a31:=Tryz.isAgg88
 z31:=Tryz.sizeOf88
 v31:=Tryz.zeroValue88
 t37:=Tryz.underlying83
 a37:=Tryz.isAgg83
 z37:=Tryz.sizeOf83
 v37:=Tryz.zeroValue83
 t70:=Tryz.underlying125
 a70:=Tryz.isAgg125
 z70:=Tryz.sizeOf125
 v70:=Tryz.zeroValue125
 t72:=Tryz.underlying127
 a72:=Tryz.isAgg127
 z72:=Tryz.sizeOf127
 v72:=Tryz.zeroValue127
 t75:=Tryz.underlying130
 a75:=Tryz.isAgg130
 z75:=Tryz.sizeOf130
 v75:=Tryz.zeroValue130
 t76:=Tryz.underlying131
 a76:=Tryz.isAgg131
 z76:=Tryz.sizeOf131
 v76:=Tryz.zeroValue131
 t127:=Tryz.underlying162
 a127:=Tryz.isAgg162
 z127:=Tryz.sizeOf162
 v127:=Tryz.zeroValue162
 t164:=Tryz.underlying180
 a164:=Tryz.isAgg180
 z164:=Tryz.sizeOf180
 v164:=Tryz.zeroValue180}
theorem Tryz.Builder_Extra_156:Builder.Extra Tryz.prog Tryz.lays156_ren:={
 sizeBuilder:=by kernel_rfl
 liesBuilder:=by kernel_rfl
 t5:=Tryz.underlying5
 a5:=Tryz.isAgg5
 z5:=Tryz.sizeOf5
 v5:=Tryz.zeroValue5
 infoByte:=by kernel_rfl
 cellsByte:=by kernel_rfl
 sizeByte:=by kernel_rfl
 neB5:=by decide}
def Tryz.lays143_ren:Go.Shelf.Ren:=⟨fun|143=>130|219=>131|217=>150|225=>151|224=>152|267=>153|266=>175|314=>176|n=>n,fun|9=>9|3=>3|4=>4|5=>5|46=>165|146=>207|51=>79|n=>n,fun|1=>3|n=>n⟩
theorem Tryz.lays143:Go.Proofs.Lays.n143 Tryz.prog Tryz.lays143_ren:={
 mixed:=by kernel_rfl
 f143:=Tryz.func130.trans (congrArg some (by kernel_rfl))
 f217:=Tryz.func150.trans (congrArg some (by kernel_rfl))
 f219:=Tryz.func131.trans (congrArg some (by kernel_rfl))
 f224:=Tryz.func152.trans (congrArg some (by kernel_rfl))
 f225:=Tryz.func151.trans (congrArg some (by kernel_rfl))
 f266:=Tryz.func175.trans (congrArg some (by kernel_rfl))
 f267:=Tryz.func153.trans (congrArg some (by kernel_rfl))
 f314:=Tryz.func176.trans (congrArg some (by kernel_rfl))
 t3:=Tryz.underlying3
 a3:=Tryz.isAgg3
 z3:=Tryz.sizeOf3
 v3:=Tryz.zeroValue3
 t4:=Tryz.underlying4
 a4:=Tryz.isAgg4
 z4:=Tryz.sizeOf4
 v4:=Tryz.zeroValue4
 t5:=Tryz.underlying5
 a5:=Tryz.isAgg5
 z5:=Tryz.sizeOf5
 v5:=Tryz.zeroValue5
 t9:=Tryz.underlying9
 a9:=Tryz.isAgg9
 z9:=Tryz.sizeOf9
 v9:=Tryz.zeroValue9
 t46:=Tryz.underlying165
 a46:=Tryz.isAgg165
 z46:=Tryz.sizeOf165
 v46:=Tryz.zeroValue165
 t51:=Tryz.underlying79
 a51:=Tryz.isAgg79
 z51:=Tryz.sizeOf79
 v51:=Tryz.zeroValue79
 t146:=Tryz.underlying207
 a146:=Tryz.isAgg207
 z146:=Tryz.sizeOf207
 v146:=Tryz.zeroValue207
 g1:=by kernel_rfl}
def Tryz.lays219_ren:Go.Shelf.Ren:=⟨fun|219=>131|217=>150|225=>151|224=>152|267=>153|266=>175|314=>176|n=>n,fun|9=>9|3=>3|4=>4|5=>5|46=>165|146=>207|51=>79|n=>n,fun|1=>3|n=>n⟩
theorem Tryz.lays219:Go.Proofs.Lays.n219 Tryz.prog Tryz.lays219_ren:={
 mixed:=by kernel_rfl
 f217:=Tryz.func150.trans (congrArg some (by kernel_rfl))
 f219:=Tryz.func131.trans (congrArg some (by kernel_rfl))
 f224:=Tryz.func152.trans (congrArg some (by kernel_rfl))
 f225:=Tryz.func151.trans (congrArg some (by kernel_rfl))
 f266:=Tryz.func175.trans (congrArg some (by kernel_rfl))
 f267:=Tryz.func153.trans (congrArg some (by kernel_rfl))
 f314:=Tryz.func176.trans (congrArg some (by kernel_rfl))
 t3:=Tryz.underlying3
 a3:=Tryz.isAgg3
 z3:=Tryz.sizeOf3
 v3:=Tryz.zeroValue3
 t4:=Tryz.underlying4
 a4:=Tryz.isAgg4
 z4:=Tryz.sizeOf4
 v4:=Tryz.zeroValue4
 t5:=Tryz.underlying5
 a5:=Tryz.isAgg5
 z5:=Tryz.sizeOf5
 v5:=Tryz.zeroValue5
 t9:=Tryz.underlying9
 a9:=Tryz.isAgg9
 z9:=Tryz.sizeOf9
 v9:=Tryz.zeroValue9
 t46:=Tryz.underlying165
 a46:=Tryz.isAgg165
 z46:=Tryz.sizeOf165
 v46:=Tryz.zeroValue165
 t51:=Tryz.underlying79
 a51:=Tryz.isAgg79
 z51:=Tryz.sizeOf79
 v51:=Tryz.zeroValue79
 t146:=Tryz.underlying207
 a146:=Tryz.isAgg207
 z146:=Tryz.sizeOf207
 v146:=Tryz.zeroValue207
 g1:=by kernel_rfl}
def Tryz.laysM173_ren:Go.Shelf.Ren:=⟨fun|173=>53|246=>94|283=>118|284=>119|285=>120|286=>121|129=>140|317=>139|318=>141|319=>142|320=>143|337=>163|338=>164|n=>n,fun|2=>2|3=>3|9=>9|4=>4|171=>157|0=>0|53=>138|37=>83|5=>5|173=>160|212=>176|51=>79|20=>20|213=>177|46=>165|232=>215|233=>216|n=>n,fun|17=>0|18=>8|19=>9|n=>n⟩
theorem Tryz.laysM173:Go.Proofs.LaysM.n173 Tryz.prog Tryz.laysM173_ren:={
 mixed:=by kernel_rfl
 f129:=Tryz.func140.trans (congrArg some (by kernel_rfl))
 f173:=Tryz.func53.trans (congrArg some (by kernel_rfl))
 f246:=Tryz.func94.trans (congrArg some (by kernel_rfl))
 f283:=Tryz.func118.trans (congrArg some (by kernel_rfl))
 f284:=Tryz.func119.trans (congrArg some (by kernel_rfl))
 f285:=Tryz.func120.trans (congrArg some (by kernel_rfl))
 f286:=Tryz.func121.trans (congrArg some (by kernel_rfl))
 f317:=Tryz.func139.trans (congrArg some (by kernel_rfl))
 f318:=Tryz.func141.trans (congrArg some (by kernel_rfl))
 f319:=Tryz.func142.trans (congrArg some (by kernel_rfl))
 f320:=Tryz.func143.trans (congrArg some (by kernel_rfl))
 f337:=Tryz.func163.trans (congrArg some (by kernel_rfl))
 f338:=Tryz.func164.trans (congrArg some (by kernel_rfl))
 t0:=Tryz.underlying0
 a0:=Tryz.isAgg0
 z0:=Tryz.sizeOf0
 v0:=Tryz.zeroValue0
 t2:=Tryz.underlying2
 a2:=Tryz.isAgg2
 z2:=Tryz.sizeOf2
 v2:=Tryz.zeroValue2
 t3:=Tryz.underlying3
 a3:=Tryz.isAgg3
 z3:=Tryz.sizeOf3
 v3:=Tryz.zeroValue3
 t4:=Tryz.underlying4
 a4:=Tryz.isAgg4
 z4:=Tryz.sizeOf4
 v4:=Tryz.zeroValue4
 t5:=Tryz.underlying5
 a5:=Tryz.isAgg5
 z5:=Tryz.sizeOf5
 v5:=Tryz.zeroValue5
 t9:=Tryz.underlying9
 a9:=Tryz.isAgg9
 z9:=Tryz.sizeOf9
 v9:=Tryz.zeroValue9
 t20:=Tryz.underlying20
 a20:=Tryz.isAgg20
 z20:=Tryz.sizeOf20
 v20:=Tryz.zeroValue20
 t37:=Tryz.underlying83
 a37:=Tryz.isAgg83
 z37:=Tryz.sizeOf83
 v37:=Tryz.zeroValue83
 t46:=Tryz.underlying165
 a46:=Tryz.isAgg165
 z46:=Tryz.sizeOf165
 v46:=Tryz.zeroValue165
 t51:=Tryz.underlying79
 a51:=Tryz.isAgg79
 z51:=Tryz.sizeOf79
 v51:=Tryz.zeroValue79
 t53:=Tryz.underlying138
 a53:=Tryz.isAgg138
 z53:=Tryz.sizeOf138
 v53:=Tryz.zeroValue138
 t171:=Tryz.underlying157
 a171:=Tryz.isAgg157
 z171:=Tryz.sizeOf157
 v171:=Tryz.zeroValue157
 t173:=Tryz.underlying160
 a173:=Tryz.isAgg160
 z173:=Tryz.sizeOf160
 v173:=Tryz.zeroValue160
 t212:=Tryz.underlying176
 a212:=Tryz.isAgg176
 z212:=Tryz.sizeOf176
 v212:=Tryz.zeroValue176
 t213:=Tryz.underlying177
 a213:=Tryz.isAgg177
 z213:=Tryz.sizeOf177
 t232:=Tryz.underlying215
 a232:=Tryz.isAgg215
 z232:=Tryz.sizeOf215
 v232:=Tryz.zeroValue215
 t233:=Tryz.underlying216
 a233:=Tryz.isAgg216
 z233:=Tryz.sizeOf216
 v233:=Tryz.zeroValue216
 g17:=by kernel_rfl
 g18:=by kernel_rfl
 g19:=by kernel_rfl
 i0:=by kernel_rfl
 i2:=by kernel_rfl
 i3:=by kernel_rfl
 i4:=by kernel_rfl
 i5:=by kernel_rfl
 i9:=by kernel_rfl
 i20:=by kernel_rfl
 i37:=by kernel_rfl
 i46:=by kernel_rfl
 i51:=by kernel_rfl
 i53:=by kernel_rfl
 i171:=by kernel_rfl
 i173:=by kernel_rfl
 i212:=by kernel_rfl
 i232:=by kernel_rfl
 i233:=by kernel_rfl
 m17:=by kernel_rfl
 m18:=by kernel_rfl
 m19:=by kernel_rfl}
def Tryz.laysC174_ren:Go.Shelf.Ren:=⟨fun|174=>108|247=>132|245=>133|287=>154|279=>155|280=>156|281=>157|282=>158|321=>177|322=>178|316=>179|171=>89|205=>180|243=>116|246=>94|283=>118|284=>119|285=>120|286=>121|129=>140|317=>139|318=>141|319=>142|320=>143|337=>163|338=>164|n=>n,fun|9=>9|3=>3|2=>2|75=>130|85=>147|4=>4|167=>185|5=>5|53=>138|175=>186|46=>165|168=>188|37=>83|0=>0|210=>212|21=>21|127=>162|145=>225|143=>223|171=>157|173=>160|212=>176|51=>79|20=>20|213=>177|232=>215|233=>216|80=>133|n=>n,fun|15=>6|16=>7|17=>0|18=>8|19=>9|n=>n⟩
theorem Tryz.laysC174:Go.Proofs.LaysC.n174 Tryz.prog Tryz.laysC174_ren:={
 mixed:=by kernel_rfl
 f129:=Tryz.func140.trans (congrArg some (by kernel_rfl))
 f171:=Tryz.func89.trans (congrArg some (by kernel_rfl))
 f174:=Tryz.func108.trans (congrArg some (by kernel_rfl))
 f205:=Tryz.func180.trans (congrArg some (by kernel_rfl))
 f243:=Tryz.func116.trans (congrArg some (by kernel_rfl))
 f245:=Tryz.func133.trans (congrArg some (by kernel_rfl))
 f246:=Tryz.func94.trans (congrArg some (by kernel_rfl))
 f247:=Tryz.func132.trans (congrArg some (by kernel_rfl))
 f279:=Tryz.func155.trans (congrArg some (by kernel_rfl))
 f280:=Tryz.func156.trans (congrArg some (by kernel_rfl))
 f281:=Tryz.func157.trans (congrArg some (by kernel_rfl))
 f282:=Tryz.func158.trans (congrArg some (by kernel_rfl))
 f283:=Tryz.func118.trans (congrArg some (by kernel_rfl))
 f284:=Tryz.func119.trans (congrArg some (by kernel_rfl))
 f285:=Tryz.func120.trans (congrArg some (by kernel_rfl))
 f286:=Tryz.func121.trans (congrArg some (by kernel_rfl))
 f287:=Tryz.func154.trans (congrArg some (by kernel_rfl))
 f316:=Tryz.func179.trans (congrArg some (by kernel_rfl))
 f317:=Tryz.func139.trans (congrArg some (by kernel_rfl))
 f318:=Tryz.func141.trans (congrArg some (by kernel_rfl))
 f319:=Tryz.func142.trans (congrArg some (by kernel_rfl))
 f320:=Tryz.func143.trans (congrArg some (by kernel_rfl))
 f321:=Tryz.func177.trans (congrArg some (by kernel_rfl))
 f322:=Tryz.func178.trans (congrArg some (by kernel_rfl))
 f337:=Tryz.func163.trans (congrArg some (by kernel_rfl))
 f338:=Tryz.func164.trans (congrArg some (by kernel_rfl))
 t0:=Tryz.underlying0
 a0:=Tryz.isAgg0
 z0:=Tryz.sizeOf0
 v0:=Tryz.zeroValue0
 t2:=Tryz.underlying2
 a2:=Tryz.isAgg2
 z2:=Tryz.sizeOf2
 v2:=Tryz.zeroValue2
 t3:=Tryz.underlying3
 a3:=Tryz.isAgg3
 z3:=Tryz.sizeOf3
 v3:=Tryz.zeroValue3
 t4:=Tryz.underlying4
 a4:=Tryz.isAgg4
 z4:=Tryz.sizeOf4
 v4:=Tryz.zeroValue4
 t5:=Tryz.underlying5
 a5:=Tryz.isAgg5
 z5:=Tryz.sizeOf5
 v5:=Tryz.zeroValue5
 t9:=Tryz.underlying9
 a9:=Tryz.isAgg9
 z9:=Tryz.sizeOf9
 v9:=Tryz.zeroValue9
 t20:=Tryz.underlying20
 a20:=Tryz.isAgg20
 z20:=Tryz.sizeOf20
 v20:=Tryz.zeroValue20
 t21:=Tryz.underlying21
 a21:=Tryz.isAgg21
 z21:=Tryz.sizeOf21
 v21:=Tryz.zeroValue21
 t37:=Tryz.underlying83
 a37:=Tryz.isAgg83
 z37:=Tryz.sizeOf83
 v37:=Tryz.zeroValue83
 t46:=Tryz.underlying165
 a46:=Tryz.isAgg165
 z46:=Tryz.sizeOf165
 v46:=Tryz.zeroValue165
 t51:=Tryz.underlying79
 a51:=Tryz.isAgg79
 z51:=Tryz.sizeOf79
 v51:=Tryz.zeroValue79
 t53:=Tryz.underlying138
 a53:=Tryz.isAgg138
 z53:=Tryz.sizeOf138
 v53:=Tryz.zeroValue138
 t75:=Tryz.underlying130
 a75:=Tryz.isAgg130
 z75:=Tryz.sizeOf130
 v75:=Tryz.zeroValue130
 t85:=Tryz.underlying147
 a85:=Tryz.isAgg147
 z85:=Tryz.sizeOf147
 v85:=Tryz.zeroValue147
 t127:=Tryz.underlying162
 a127:=Tryz.isAgg162
 z127:=Tryz.sizeOf162
 v127:=Tryz.zeroValue162
 t143:=Tryz.underlying223
 a143:=Tryz.isAgg223
 z143:=Tryz.sizeOf223
 v143:=Tryz.zeroValue223
 t145:=Tryz.underlying225
 a145:=Tryz.isAgg225
 z145:=Tryz.sizeOf225
 v145:=Tryz.zeroValue225
 t167:=Tryz.underlying185
 a167:=Tryz.isAgg185
 z167:=Tryz.sizeOf185
 v167:=Tryz.zeroValue185
 t168:=Tryz.underlying188
 a168:=Tryz.isAgg188
 z168:=Tryz.sizeOf188
 v168:=Tryz.zeroValue188
 t171:=Tryz.underlying157
 a171:=Tryz.isAgg157
 z171:=Tryz.sizeOf157
 v171:=Tryz.zeroValue157
 t173:=Tryz.underlying160
 a173:=Tryz.isAgg160
 z173:=Tryz.sizeOf160
 v173:=Tryz.zeroValue160
 t175:=Tryz.underlying186
 a175:=Tryz.isAgg186
 z175:=Tryz.sizeOf186
 v175:=Tryz.zeroValue186
 t210:=Tryz.underlying212
 a210:=Tryz.isAgg212
 z210:=Tryz.sizeOf212
 v210:=Tryz.zeroValue212
 t212:=Tryz.underlying176
 a212:=Tryz.isAgg176
 z212:=Tryz.sizeOf176
 v212:=Tryz.zeroValue176
 t213:=Tryz.underlying177
 a213:=Tryz.isAgg177
 z213:=Tryz.sizeOf177
 t232:=Tryz.underlying215
 a232:=Tryz.isAgg215
 z232:=Tryz.sizeOf215
 v232:=Tryz.zeroValue215
 t233:=Tryz.underlying216
 a233:=Tryz.isAgg216
 z233:=Tryz.sizeOf216
 v233:=Tryz.zeroValue216
 g15:=by kernel_rfl
 g16:=by kernel_rfl
 g17:=by kernel_rfl
 g18:=by kernel_rfl
 g19:=by kernel_rfl
 t80:=Tryz.underlying133
 a80:=Tryz.isAgg133
 z80:=Tryz.sizeOf133
 v80:=Tryz.zeroValue133
 i0:=by kernel_rfl
 i2:=by kernel_rfl
 i3:=by kernel_rfl
 i4:=by kernel_rfl
 i5:=by kernel_rfl
 i9:=by kernel_rfl
 i20:=by kernel_rfl
 i21:=by kernel_rfl
 i37:=by kernel_rfl
 i46:=by kernel_rfl
 i51:=by kernel_rfl
 i53:=by kernel_rfl
 i75:=by kernel_rfl
 i80:=by kernel_rfl
 i85:=by kernel_rfl
 i127:=by kernel_rfl
 i143:=by kernel_rfl
 i145:=by kernel_rfl
 i167:=by kernel_rfl
 i168:=by kernel_rfl
 i171:=by kernel_rfl
 i173:=by kernel_rfl
 i175:=by kernel_rfl
 i210:=by kernel_rfl
 i212:=by kernel_rfl
 i232:=by kernel_rfl
 i233:=by kernel_rfl
 m15:=by kernel_rfl
 m16:=by kernel_rfl
 m17:=by kernel_rfl
 m18:=by kernel_rfl
 m19:=by kernel_rfl
 c0:=by kernel_rfl
 c2:=by kernel_rfl
 c3:=by kernel_rfl
 c4:=by kernel_rfl
 c5:=by kernel_rfl
 c9:=by kernel_rfl
 c20:=by kernel_rfl
 c21:=by kernel_rfl
 c37:=by kernel_rfl
 c46:=by kernel_rfl
 c51:=by kernel_rfl
 c53:=by kernel_rfl
 c75:=by kernel_rfl
 c80:=by kernel_rfl
 c85:=by kernel_rfl
 c127:=by kernel_rfl
 c143:=by kernel_rfl
 c145:=by kernel_rfl
 c167:=by kernel_rfl
 c168:=by kernel_rfl
 c171:=by kernel_rfl
 c173:=by kernel_rfl
 c175:=by kernel_rfl
 c210:=by kernel_rfl
 c212:=by kernel_rfl
 c213:=by kernel_rfl
 c232:=by kernel_rfl
 c233:=by kernel_rfl}
def Tryz.lays190_ren:Go.Shelf.Ren:=⟨fun|190=>124|125=>147|258=>146|128=>174|129=>140|302=>165|303=>166|304=>167|305=>168|306=>169|307=>170|308=>171|309=>172|310=>173|333=>183|329=>184|330=>185|334=>186|335=>187|336=>188|344=>189|n=>n,fun|31=>88|9=>9|3=>3|46=>165|0=>0|51=>79|53=>138|4=>4|183=>196|182=>195|131=>201|5=>5|218=>217|222=>221|228=>226|229=>227|n=>n,fun|n=>n⟩
theorem Tryz.lays190:Go.Proofs.Lays.n190 Tryz.prog Tryz.lays190_ren:={
 mixed:=by kernel_rfl
 f125:=Tryz.func147.trans (congrArg some (by kernel_rfl))
 f128:=Tryz.func174.trans (congrArg some (by kernel_rfl))
 f129:=Tryz.func140.trans (congrArg some (by kernel_rfl))
 f190:=Tryz.func124.trans (congrArg some (by kernel_rfl))
 f258:=Tryz.func146.trans (congrArg some (by kernel_rfl))
 f302:=Tryz.func165.trans (congrArg some (by kernel_rfl))
 f303:=Tryz.func166.trans (congrArg some (by kernel_rfl))
 f304:=Tryz.func167.trans (congrArg some (by kernel_rfl))
 f305:=Tryz.func168.trans (congrArg some (by kernel_rfl))
 f306:=Tryz.func169.trans (congrArg some (by kernel_rfl))
 f307:=Tryz.func170.trans (congrArg some (by kernel_rfl))
 f308:=Tryz.func171.trans (congrArg some (by kernel_rfl))
 f309:=Tryz.func172.trans (congrArg some (by kernel_rfl))
 f310:=Tryz.func173.trans (congrArg some (by kernel_rfl))
 f329:=Tryz.func184.trans (congrArg some (by kernel_rfl))
 f330:=Tryz.func185.trans (congrArg some (by kernel_rfl))
 f333:=Tryz.func183.trans (congrArg some (by kernel_rfl))
 f334:=Tryz.func186.trans (congrArg some (by kernel_rfl))
 f335:=Tryz.func187.trans (congrArg some (by kernel_rfl))
 f336:=Tryz.func188.trans (congrArg some (by kernel_rfl))
 f344:=Tryz.func189.trans (congrArg some (by kernel_rfl))
 t0:=Tryz.underlying0
 a0:=Tryz.isAgg0
 z0:=Tryz.sizeOf0
 v0:=Tryz.zeroValue0
 t3:=Tryz.underlying3
 a3:=Tryz.isAgg3
 z3:=Tryz.sizeOf3
 v3:=Tryz.zeroValue3
 t4:=Tryz.underlying4
 a4:=Tryz.isAgg4
 z4:=Tryz.sizeOf4
 v4:=Tryz.zeroValue4
 t5:=Tryz.underlying5
 a5:=Tryz.isAgg5
 z5:=Tryz.sizeOf5
 v5:=Tryz.zeroValue5
 t9:=Tryz.underlying9
 a9:=Tryz.isAgg9
 z9:=Tryz.sizeOf9
 v9:=Tryz.zeroValue9
 t31:=Tryz.underlying88
 a31:=Tryz.isAgg88
 z31:=Tryz.sizeOf88
 v31:=Tryz.zeroValue88
 t46:=Tryz.underlying165
 a46:=Tryz.isAgg165
 z46:=Tryz.sizeOf165
 v46:=Tryz.zeroValue165
 t51:=Tryz.underlying79
 a51:=Tryz.isAgg79
 z51:=Tryz.sizeOf79
 v51:=Tryz.zeroValue79
 t53:=Tryz.underlying138
 a53:=Tryz.isAgg138
 z53:=Tryz.sizeOf138
 v53:=Tryz.zeroValue138
 t131:=Tryz.underlying201
 a131:=Tryz.isAgg201
 z131:=Tryz.sizeOf201
 v131:=Tryz.zeroValue201
 t182:=Tryz.underlying195
 a182:=Tryz.isAgg195
 z182:=Tryz.sizeOf195
 v182:=Tryz.zeroValue195
 t183:=Tryz.underlying196
 a183:=Tryz.isAgg196
 z183:=Tryz.sizeOf196
 v183:=Tryz.zeroValue196
 t218:=Tryz.underlying217
 a218:=Tryz.isAgg217
 z218:=Tryz.sizeOf217
 v218:=Tryz.zeroValue217
 t222:=Tryz.underlying221
 a222:=Tryz.isAgg221
 z222:=Tryz.sizeOf221
 v222:=Tryz.zeroValue221
 t228:=Tryz.underlying226
 a228:=Tryz.isAgg226
 z228:=Tryz.sizeOf226
 v228:=Tryz.zeroValue226
 t229:=Tryz.underlying227
 a229:=Tryz.isAgg227
 z229:=Tryz.sizeOf227
 v229:=Tryz.zeroValue227}
def Tryz.lays725_ren:Go.Shelf.Ren:=⟨fun|25=>126|n=>n,fun|22=>138|n=>n,fun|n=>n⟩
theorem Tryz.lays725:Go.Proofs.Lays7.n25 Tryz.prog Tryz.lays725_ren:={
 mixed:=by kernel_rfl
 f25:=Tryz.func126.trans (congrArg some (by kernel_rfl))
 t22:=Tryz.underlying138
 a22:=Tryz.isAgg138
 z22:=Tryz.sizeOf138
 v22:=Tryz.zeroValue138
 i22:=by kernel_rfl}
end Go.Proofs
set_option linter.unusedVariables false
set_option linter.unusedSimpArgs false
set_option maxRecDepth 100000
namespace Go.Aa.T
open Go.Aa Go.Proofs Go.RowKit Go.Shelf
theorem cfgOk:CfgOk Tryz.prog cfg:=by
 refine⟨by kernel_rfl,fun f A h=>tab_fn h,fun f g h=> ?_,fun f h=> ?_⟩
 ·have h:extF f=some g:=h
  unfold extF at h
  split at h<;>simp only[Option.some.injEq,reduceCtorEq]at h<;>subst h
  ·exact ext_trim (fun _ _=>by kernel_rfl) fun s c w h1 h2 h3=>Any.strings_Trim_laid Tryz.lays160 (by kernel_rfl) s c w h1 h2 h3
  ·exact ext_join (fun _ _=>by kernel_rfl) (fun a c sep w=>Any.strings_Join_none Tryz.lays156 Tryz.Builder_Extra_156 a c sep w) fun bk o c xs sep w h1 h2 h3 h4 h5=>Any.strings_Join Tryz.lays156 Tryz.Builder_Extra_156 bk o c xs sep w h1 h2 h3 h4 h5
  ·exact ext_index (fun _ _=>by kernel_rfl) fun s c w=>Any.strings_Index_one Tryz.lays143 s c w
  ·exact ext_index (fun _ _=>by kernel_rfl) fun s c w=>Any.stringslite_Index_one Tryz.lays219 s c w
  ·exact ext_fmt (fun _ _=>by kernel_rfl) (g:=0) (by kernel_rfl) fun n w h0 h1 ht=>(Any.strconv_FormatInt_10 Tryz.laysM173 n h0 h1 w ht).mono fun e w' hh=>⟨hh.1,by obtain⟨_,k,os,rfl⟩:=hh;exact Lib.below_grow _ _ (Nat.le_refl _) _ _⟩
  ·exact ext_parse (fun _ _=>by kernel_rfl) (g1:=6) (g2:=7) (by kernel_rfl) (by kernel_rfl)
    (fun s v w hz he=>(Any.strconv_ParseInt_10_at64_ok Tryz.laysC174 s (by omega) v he w).mono fun e w' hh=>⟨hh.1,by
      obtain⟨_,rfl|⟨t,rfl⟩⟩:=hh
      ·exact Below.refl _ _
      ·exact Lib.bytesWorld_below _ _ _⟩)
    (fun s w tp p hz he hv=>(Any.strconv_ParseInt_10_at64_syntax_var Tryz.laysC174 s hz he tp p w hv).mono fun e w' hh=>by
      obtain⟨N,h1,_,_,h2⟩:=hh
      exact⟨_,h1,h2⟩)
    (fun s w tp p hz he hv=>(Any.strconv_ParseInt_10_at64_range_var Tryz.laysC174 s hz he tp p w hv).mono fun e w' hh=>by
      obtain⟨N,h1,_,_,h2⟩:=hh
      exact⟨_,h1,h2⟩)
  ·exact ext_sort (fun _ _=>by kernel_rfl) (fun a c w=>Any.slices_Sort_string_none Tryz.lays190 a c w) fun blk off cap ss w h1 h2 h3=>Any.slices_Sort_string Tryz.lays190 blk off cap ss w h1 h2 h3
  ·exact ext_add64 fun x y c hc w=>Any7.bits_Add64 Tryz.lays725 x y c hc w
 ·have h:(f==74)=true:=h
  have:f=74:=by simpa using h
  subst this
  exact Go.Proofs.YtbcfceehklfojaaGreatDoor.T.tryOk
#print axioms cfgOk
end Go.Aa.T
set_option linter.unusedVariables false
set_option linter.unusedSimpArgs false
set_option maxRecDepth 100000
namespace Go.Aa.T
open Go.Aa Go.Proofs Go.RowKit Go.ChangeShapes Go.Proofs.YtbcfceehklfojaaGreatDoor
theorem star: "*" ++ "errors.errorString" = "*errors.errorString" :=by decide
theorem rowES(u:TypeId)(h:Tryz.prog.typeName? 3 u=some "*errors.errorString"):u=223:=
 typeName_ptr_named (nm:= "errors.errorString") (by rw[star];kernel_rfl) (by kernel_rfl) (by decide) u (by rw[star];exact h)
theorem var_heap{P:Program}{W:World}{n:String}{cs:Array Value}{g:Nat}(h:W.var? P n=some cs)(hg:P.globalNamed n=some g):∃e m,W.heap[g]?=some (.cells cs e m):=by
 simp only[World.var?,hg,Option.bind_some]at h
 split at h
 ·rename_i cs' e m hc
  cases h
  exact⟨e,m,hc⟩
 ·cases h
def laidL:List (String×DataW Unit):=Rows.resPartsRow.laid
theorem pow_eq:(Rows.laid_internal_strconv_uint64pow10:DataW Unit)=Lib.tabData .u64 Lib.pow10Tab:=by kernel_rfl
theorem cellsES:Tryz.prog.cellsOf 225=1:=by kernel_rfl
theorem cellsS:Tryz.prog.cellsOf 9=1:=by kernel_rfl
theorem glob0W{W:World}(h:laidMet Tryz.prog laidL W):Glob0 Tryz.prog W:=by
 have h2:=laidMet.tail (laidMet.tail h)
 have ht:Lib.TabIs Tryz.prog W "internal/strconv.uint64pow10" .u64 Lib.pow10Tab:=by
  have h3:laidMet Tryz.prog (("internal/strconv.uint64pow10",Rows.laid_internal_strconv_uint64pow10)::_) W:=h2
  rw[pow_eq]at h3
  exact Lib.tabIs_of_head (g:=0) (t:=176) (n:=20) (by kernel_rfl) (by kernel_rfl) Tryz.underlying176 Tryz.underlying138 (by kernel_rfl) (by kernel_rfl) h3
 have h4:=laidMet.tail (laidMet.tail h2)
 obtain⟨a1,s1,hv1,-,-,-⟩:=laid_sentinel h4 (g:=7) (ti:=130) (tp:=223) (te:=225) (ts:=9) (by kernel_rfl) (by kernel_rfl) Tryz.underlying130 rowES Tryz.underlying223 Tryz.underlying225 rfl rfl Tryz.underlying9 cellsES cellsS
 have h5:=laidMet.tail h4
 obtain⟨a2,s2,hv2,-,-,-⟩:=laid_sentinel h5 (g:=6) (ti:=130) (tp:=223) (te:=225) (ts:=9) (by kernel_rfl) (by kernel_rfl) Tryz.underlying130 rowES Tryz.underlying223 Tryz.underlying225 rfl rfl Tryz.underlying9 cellsES cellsS
 intro s hs g hg
 simp only[globSpec,List.mem_cons,List.not_mem_nil,or_false]at hs
 rcases hs with rfl|rfl|rfl
 ·obtain⟨e,m,hh⟩:=var_heap ht hg
  exact⟨_,e,m,hh,rfl⟩
 ·obtain⟨e,m,hh⟩:=var_heap hv2 hg
  exact⟨_,e,m,hh,_,_,rfl⟩
 ·obtain⟨e,m,hh⟩:=var_heap hv1 hg
  exact⟨_,e,m,hh,_,_,rfl⟩
end Go.Aa.T
set_option linter.unusedVariables false
set_option linter.unusedSimpArgs false
namespace Go.Aa
variable{P:Program}{R:List (Nat×Nat)}
def rkOf(R:List (Nat×Nat))(u:Nat):Option Nat:=(R.find? fun p=>p.1==u).map (·.2)
def rkB(P:Program)(R:List (Nat×Nat)):Bool:=R.all fun p=>(P.partsOf p.1).all fun v=>match rkOf R v with
 |some r=>Nat.blt r p.2
 |none=>false
theorem rk_part(h:rkB P R=true){u ru v:Nat}(hu:rkOf R u=some ru)(hv:v∈P.partsOf u):∃r,rkOf R v=some r∧r<ru:=by
 unfold rkOf at hu
 obtain⟨p,hp,rfl⟩:=Option.map_eq_some_iff.1 hu
 have hm:=List.mem_of_find?_eq_some hp
 have he:=List.find?_some hp
 simp only[beq_iff_eq]at he
 have h1:=List.all_eq_true.1 h p hm
 rw[he]at h1
 have h2:=List.all_eq_true.1 h1 v hv
 split at h2
 ·rename_i r hr
  exact⟨r,hr,by simpa using h2⟩
 ·cases h2
theorem rk_grow(h:rkB P R=true){s:List TypeId}{r:Nat}(hs:∀x∈s,∃q,rkOf R x=some q∧q≤r):∀x∈P.grow s,∃q,rkOf R x=some q∧q≤r:=by
 intro x hx
 unfold Program.grow at hx
 rw[List.mem_eraseDups,List.mem_append]at hx
 rcases hx with hx|hx
 ·exact hs x hx
 ·obtain⟨u,hu,hx⟩:=List.mem_flatMap.1 hx
  obtain⟨q,hq,hl⟩:=hs u hu
  obtain⟨q',hq',hl'⟩:=rk_part h hq hx
  exact⟨q',hq',by omega⟩
theorem rk_grown(h:rkB P R=true){r:Nat}:∀(n:Nat){s:List TypeId},(∀x∈s,∃q,rkOf R x=some q∧q≤r)→∀x∈P.grown n s,∃q,rkOf R x=some q∧q≤r
 |0,_,hs=>hs
 |n+1,_,hs=>rk_grown h n (rk_grow h hs)
theorem rk_book(h:rkB P R=true){t r:Nat}(ht:rkOf R t=some r):∀x∈P.book t,∃q,rkOf R x=some q∧q≤r:=
 rk_grown h _ fun x hx=>by
  rw[List.mem_singleton]at hx
  subst hx
  exact⟨r,ht,Nat.le_refl _⟩
theorem rk_loops(h:rkB P R=true){t r:Nat}(ht:rkOf R t=some r):P.loopsFrom t=false:=by
 unfold Program.loopsFrom
 rw[List.any_eq_false]
 intro u hu
 obtain⟨ru,hu1,-⟩:=rk_book h ht u hu
 simp only[Bool.not_eq_true]
 rw[List.any_eq_false]
 intro v hv
 obtain⟨rv,hv1,hlt⟩:=rk_part h hu1 hv
 intro hc
 have hm:u∈P.book v:=by simpa using hc
 obtain⟨q,hq,hl⟩:=rk_book h hv1 u hm
 rw[hu1]at hq
 simp only[Option.some.injEq]at hq
 omega
theorem rk_all(h:rkB P R=true){ts:List TypeId}(ht:(ts.all fun t=>(rkOf R t).isSome)=true):ts.any (P.loopsFrom ·)=false:=by
 rw[List.any_eq_false]
 intro t hm
 have:=List.all_eq_true.1 ht t hm
 obtain⟨r,hr⟩:=Option.isSome_iff_exists.1 this
 rw[rk_loops h hr]
 exact Bool.false_ne_true
end Go.Aa


