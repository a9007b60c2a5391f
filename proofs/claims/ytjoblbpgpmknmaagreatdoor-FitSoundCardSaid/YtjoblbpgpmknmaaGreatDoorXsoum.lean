/-
  WHAT THE LAW LEANS ON, part 13 of 14: a machine of values and its soundness; the functions of the law upon it; what they come to.
-/
import Derived.Test.YtjoblbpgpmknmaaGreatDoorXsoul
import Derived.Shelf.Sort.Plain
import Derived.Shelf.Slices.In.SortNone
import Derived.Shelf.Slices.In.SortAlone
import Derived.Shelf.Small.Strs
import Derived.Shelf.Spec.SlicesInsertGrow
set_option linter.unusedVariables false
set_option linter.unusedSimpArgs false
set_option maxRecDepth 100000
namespace Go.Aa.T
open Go.Aa Go.Proofs
abbrev pzc:List AV:=[.sl .full [],.sl .full [],.sl .full []]
theorem does_bsl{B:List (List AV)}(p:Pod):Does cfg (.bsliceM 11 [.c (encPd p)]) ⟨B,[],[]⟩ (.msl B.length 0 1 11) ⟨B++[(encPd p).cells],[],[]⟩:=fun T=>by
 have:bsliceA 11 ⟨B,[],[]⟩ [encPd p]=some (.msl B.length 0 1 11,⟨B++[(encPd p).cells],[],[]⟩):=by
  simp only[bsliceA]
  rw[if_pos ⟨rfl,rfl⟩]
  rfl
 simp only[opStep,List.map_cons,List.map_nil,ev]
 rw[show shut2 (encPd p)=encPd p from rfl,this]
theorem pcs_cut{l:List Pod}{Z:List AV}{q m:Nat}(p:Pod)(hm:l.length=m)(hq:q≤m):(pcs l++Z).take (q*11)++(encPd p).cells++((pcs l++Z).take (m*11)).drop (q*11)=pcs (l.take q++p::l.drop q):=by
 have h1:=pcs_len l
 have e:l=l.take q++l.drop q:=(List.take_append_drop q l).symm
 have ht:=pcs_len (l.take q)
 rw[List.length_take,Nat.min_eq_left (by omega)]at ht
 have h2:pcs l=pcs (l.take q)++pcs (l.drop q):=by rw[←pcs_app,List.take_append_drop]
 have e1:(pcs l++Z).take (m*11)=pcs l:=by rw[List.take_left' (by omega)]
 have e2:(pcs l++Z).take (q*11)=pcs (l.take q):=by
  rw[List.take_append_of_le_length (by omega),h2,List.take_left' ht]
 have e3:(pcs l).drop (q*11)=pcs (l.drop q):=by rw[h2,List.drop_left' ht]
 rw[e1,e2,e3,pcs_app,show pcs (p::l.drop q)=(encPd p).cells++pcs (l.drop q)by simp[pcs,rowCells],List.append_assoc]
theorem ins_any{B:List (List AV)}{kk kv m q:Nat}{l:List Pod}{Z:List AV}{p:Pod}(hkk:kk≠kv)(hk:B[kk]?=some (pcs l++Z))(hv:B[kv]?=some (encPd p).cells)(hm:l.length=m)(hq:q≤m)(hb:m≤100000)(hZ:Z.all data0=true)(h0:0<(pcs l++Z).length):
 Does cfg (.callM (.c (.func 119 [])) [.c (.msl kk 0 m 11),.c (.int .i64 (q:Nat)),.c (.msl kv 0 1 11)]) ⟨B,[],[]⟩ (.msl B.length 0 (m+1) 11) ⟨B.set kk []++[pcs (l.take q++p::l.drop q)],[],[]⟩:=by
 have hl:=pcs_len l
 have h:lim cfg (.fn 119) [.msl kk 0 m 11,.int .i64 (q:Nat),.msl kv 0 1 11] ⟨B,[],[]⟩=some (.ret (.msl B.length 0 (m+1) 11),⟨B.set kk []++[pcs (l.take q++p::l.drop q)],[],[]⟩):=by
  rw[lim_ext (g:=insE 11 184) rfl rfl]
  have:insE 11 184 [.msl kk 0 m 11,.int .i64 (q:Nat),.msl kv 0 1 11] ⟨B,[],[]⟩=some (.msl B.length 0 (m+1) 11,⟨B.set kk []++[pcs (l.take q++p::l.drop q)],[],[]⟩):=by
   simp only[insE,hk,hv]
   rw[if_pos ⟨⟨hkk,by trivial,by trivial,by trivial,by trivial,by trivial,by omega,by omega⟩,by rw[List.length_append];omega,h0,rfl,by rw[List.all_append,pcs_data,hZ];rfl,pc_data p,by omega⟩,Int.toNat_natCast,pcs_cut p hm hq]
  rw[this];rfl
 have hd:=does_callM (xs:=[.msl kk 0 m 11,.int .i64 (q:Nat),.msl kv 0 1 11]) h rfl rfl
 rw[show shutA (.msl B.length 0 (m+1) 11)=.msl B.length 0 (m+1) 11 from rfl,show(⟨B,[],[]⟩:Heap).boxes.length=B.length from rfl,show(⟨B,[],[]⟩:Heap).toks.length=0 from rfl,trunc_new (ex:=[]) (Nat.le_refl _)]at hd
 exact hd
theorem ins_nil{B:List (List AV)}{kv:Nat}{p:Pod}(hv:B[kv]?=some (encPd p).cells):
 Does cfg (.callM (.c (.func 119 [])) [.c (.sl .nil []),.c (.int .i64 0),.c (.msl kv 0 1 11)]) ⟨B,[],[]⟩ (.msl B.length 0 1 11) ⟨B++[pcs [p]],[],[]⟩:=by
 have h:lim cfg (.fn 119) [.sl .nil [],.int .i64 0,.msl kv 0 1 11] ⟨B,[],[]⟩=some (.ret (.msl B.length 0 1 11),⟨B++[pcs [p]],[],[]⟩):=by
  rw[lim_ext (g:=insE 11 184) rfl rfl]
  have:insE 11 184 [.sl .nil [],.int .i64 0,.msl kv 0 1 11] ⟨B,[],[]⟩=some (.msl B.length 0 1 11,⟨B++[pcs [p]],[],[]⟩):=by
   simp only[insE,hv]
   rw[if_pos ⟨by trivial,by trivial,by trivial,by trivial,rfl,pc_data p,by decide⟩]
   simp[pcs,rowCells]
  rw[this];rfl
 have hd:=does_callM (xs:=[.sl .nil [],.int .i64 0,.msl kv 0 1 11]) h rfl rfl
 rw[show shutA (.msl B.length 0 1 11)=.msl B.length 0 1 11 from rfl,show(⟨B,[],[]⟩:Heap).boxes.length=B.length from rfl,show(⟨B,[],[]⟩:Heap).toks.length=0 from rfl,trunc_new (ex:=[]) (Nat.le_refl _)]at hd
 exact hd
theorem bs_nil{B:List (List AV)}(nm:List UInt8)(hB:Tame B):Does cfg (.callM (.c (.func 116 [])) [.c (.sl .nil []),.c (.str nm),.c (.func 117 [])]) ⟨B,[],[]⟩ (.tuple [.int .i64 0,.bool false]) ⟨B,[],[]⟩:=by
 have lp:∀(T:Env)(hT:Has T [(0,.sl .nil []),(1,.str nm),(2,.func 117 []),(8,.int .i64 ((([]:List AV).length:Nat):Int)),(9,.int .i64 0),(10,.int .i64 ((([]:List AV).length:Nat):Int))]),Goes cfg a116 k116_0 T ⟨B,[],[]⟩ (fun r=>r=(.ret (.tuple [.int .i64 0,.bool false]),⟨B,[],[]⟩)):=by
  intro T hT
  exact gG 60 _ hT (.ff<|.ff<|.fin ((.ret (.tuple [.int .i64 0,.bool false]),{boxes:=B,toks:=[],loops:=[]:Heap})) rfl)
 have k1:Goes cfg a116 [.c c116] (initEnv [.sl .nil [],.str nm,.func 117 []]) ⟨B,[],[]⟩ (fun r=>r=(.ret (.tuple [.int .i64 0,.bool false]),⟨B,[],[]⟩)):=by
  exact gG 60 [] trivial (.len (show lenA false (.sl .nil [])=some (.int .i64 (↑[].length:Int))from len_sl _ _)<|.cutQ k116_0 [(0,.sl .nil []),(1,.str nm),(2,.func 117 []),(8,.int .i64 (↑[].length:Int)),(9,.int .i64 0),(10,.int .i64 (↑[].length:Int))] ({boxes:=B,toks:=[],loops:=[]:Heap}) (fun T hT=>(lp T hT)))
 obtain⟨r,h,rfl⟩:=k1
 have h':lim cfg (.fn 116) [.sl .nil [],.str nm,.func 117 []] ⟨B,[],[]⟩=some (.ret (.tuple [.int .i64 0,.bool false]),⟨B,[],[]⟩):=by rw[l116];exact h
 have hd:=does_callM (xs:=[.sl .nil [],.str nm,.func 117 []]) h' rfl rfl
 have e:=trunc_tame (ex:=[]) (v:=.tuple [.int .i64 0,.bool false]) hB rfl
 rw[List.append_nil]at e
 rw[show(⟨B,[],[]⟩:Heap).boxes.length=B.length from rfl,show(⟨B,[],[]⟩:Heap).toks.length=0 from rfl,show shutA (.tuple [.int .i64 0,.bool false])=.tuple [.int .i64 0,.bool false]from rfl,e]at hd
 exact hd
def srtP(l:List Pod):Prop:=l.Pairwise fun a b=>Op.bytesLess a.name b.name=true
def putL(p:Pod)(l:List Pod):List Pod:=(offP p.name l).takeWhile (before p.name)++p::(offP p.name l).dropWhile (before p.name)
def putS(s:St)(p:Pod):St:={s with pods:=putL p s.pods}
theorem tw_take{X:Type}(f:X→Bool):∀l:List X,l.take (l.takeWhile f).length=l.takeWhile f∧l.drop (l.takeWhile f).length=l.dropWhile f
 |[]=>⟨rfl,rfl⟩
 |x::l=>by
  have ih:=tw_take f l
  cases h:f x with
  |true=>simp only[List.takeWhile_cons,List.dropWhile_cons,h,if_true,List.length_cons,List.take_succ_cons,List.drop_succ_cons,ih,and_self]
  |false=>simp[List.takeWhile_cons,List.dropWhile_cons,h]
theorem tw_len{X:Type}(f:X→Bool):∀l:List X,(l.takeWhile f).length≤l.length
 |[]=>Nat.le_refl _
 |x::l=>by
  have ih:=tw_len f l
  rw[List.takeWhile_cons]
  split
  ·simp;omega
  ·simp
theorem tw_below{X:Type}(f:X→Bool):∀(l:List X)(k:Nat)(x:X),l[k]?=some x→k<(l.takeWhile f).length→f x=true
 |[],k,x,h,_=>by simp at h
 |y::l,k,x,h,hk=>by
  rw[List.takeWhile_cons]at hk
  split at hk
  ·rename_i hy
   cases k with
   |zero=>simp at h;subst h;exact hy
   |succ k=>exact tw_below f l k x (by simpa using h) (by simpa using hk)
  ·simp at hk
theorem tw_above(nm:List UInt8):∀(l:List Pod),srtP l→∀(k:Nat)(x:Pod),l[k]?=some x→(l.takeWhile (before nm)).length≤k→before nm x=false
 |[],_,k,x,h,_=>by simp at h
 |y::l,hs,k,x,h,hk=>by
  have h1:=List.pairwise_cons.1 hs
  rw[List.takeWhile_cons]at hk
  split at hk
  ·cases k with
   |zero=>simp at hk
   |succ k=>exact tw_above nm l h1.2 k x (by simpa using h) (by simpa using hk)
  ·rename_i hy
   cases k with
   |zero=>simp at h;subst h;simpa using hy
   |succ k=>
    have hm:x∈l:=List.mem_of_getElem? (by simpa using h)
    have hlt:=h1.1 x hm
    cases hb:before nm x with
    |false=>rfl
    |true=>
     refine absurd ?_ hy
     unfold before at hb⊢
     rw[bl_eq,decide_eq_true_eq]at hlt hb⊢
     exact List.lt_trans hlt hb
theorem trunc_stA{bs:List (List AV)}{nb k off n es:Nat}{s:St}(hl:nb≤k):trunc nb 0 (stA s (.msl k off n es)) ⟨bs,[],[]⟩=⟨bs,[],[]⟩:=by
 unfold trunc
 have hw:within nb 0 (stA s (.msl k off n es))=false:=by simp[stA,within,in2,in1,in0];omega
 simp only[hw,List.length_nil,List.all_nil,Bool.true_and,Bool.and_false,Bool.false_and,Bool.false_eq_true,if_false,List.take_zero,ite_self]
theorem drop_does(S P R:List AV)(hT:Tame [S,P,R])(s:St)(nm:List UInt8)(hs:s.pods.length≤100000):∃v ex,PR 6 s.pods.length (offP nm s.pods) v ex∧
 Does cfg (.callM (.c (.func 27 [])) [.c (encSt s),.c (.str nm)]) ⟨[S,P,R],[],[]⟩ (stA s v) ⟨match ex with|[]=>[S,P,R]|x=>[S,P,R,stC s v,[.str nm],stC s v]++x,[],[]⟩:=by
 obtain⟨r0,h0,v0,ex0,hp0,rfl⟩:=drop0 s nm hs
 obtain⟨r,h,v,ex,hp,rfl⟩:=drop3 S P R hT s nm hs
 have hd0:isData (shutA (stA s v0))=false:=by cases hp0<;>rfl
 have hsh:shutA (stA s v)=stA s v:=by cases hp<;>rfl
 have hd:=does_callN (xs:=[encSt s,.str nm]) ((l27 _ _).trans h0) hd0 ((l27 _ _).trans h) rfl rfl
 rw[hsh]at hd
 refine⟨v,ex,hp,?_⟩
 cases hp with
 |some Z hZ hn hl=>
  rw[show(⟨[S,P,R],[],[]⟩:Heap).boxes.length=3 from rfl,show(⟨[S,P,R],[],[]⟩:Heap).toks.length=0 from rfl,trunc_stA (by decide)]at hd
  exact hd
 |none h0 hl=>
  have e:=trunc_tame (B:=[S,P,R]) (ex:=[stC s (.sl .nil []),[.str nm],stC s (.sl .nil [])]) (v:=stA s (.sl .nil [])) hT rfl
  rw[show(⟨[S,P,R],[],[]⟩:Heap).boxes.length=[S,P,R].length from rfl,show(⟨[S,P,R],[],[]⟩:Heap).toks.length=0 from rfl,show([S,P,R]++([stC s (.sl .nil []),[.str nm],stC s (.sl .nil [])]++[]):List (List AV))=[S,P,R]++[stC s (.sl .nil []),[.str nm],stC s (.sl .nil [])]from rfl,e]at hd
  exact hd
theorem off_len(nm:List UInt8)(l:List Pod):(offP nm l).length≤l.length:=List.length_filter_le _ _
theorem off_srt{nm:List UInt8}{l:List Pod}(h:srtP l):srtP (offP nm l):=h.filter _
def RetPut(s:St)(p:Pod)(r:ARes×Heap):Prop:=∃k bs,r=(.ret (stA s (.msl k 0 (putL p s.pods).length 11)),⟨bs,[],[]⟩)∧bs[k]?=some (pcs (putL p s.pods))
theorem put_goes(s:St)(p:Pod)(hs:s.pods.length≤1000)(hsrt:srtP s.pods):Goes cfg a45 [.c c45] (initEnv [encSt s,encPd p]) ⟨[],[],[]⟩ (RetPut s p):=by
 have hT:Tame [(encSt s).cells,(encPd p).cells,pzc]:=tame_data rfl
 obtain⟨v,ex,hp,hd⟩:=drop_does (encSt s).cells (encPd p).cells pzc hT s p.name (by omega)
 have hol:=off_len p.name s.pods
 cases hp with
 |some Z hZ hn hl=>
  obtain⟨nodes,pods,buds⟩:=s
  generalize hld:offP p.name pods=l at*
  have hsl:srtP l:=hld▸off_srt hsrt
  have tw:=tw_take (before p.name) l
  have twl:=tw_len (before p.name) l
  have hputl:putL p pods=l.take (l.takeWhile (before p.name)).length++p::l.drop (l.takeWhile (before p.name)).length:=by rw[tw.1,tw.2,←hld];rfl
  have hs':pods.length≤1000:=hs
  have hol':l.length≤pods.length:=hol
  have hZ0:0<(pcs l++Z).length:=by rw[hl];omega
  have hlen:(putL p pods).length=l.length+1:=by
   rw[hputl];simp only[List.length_append,List.length_cons,List.length_take,List.length_drop];omega
  have hQ:(pcs l++Z).all data0=true:=by rw[List.all_append,pcs_data,hZ];rfl
  have hT7:Tame [stC ⟨nodes,pods,buds⟩ (.msl 6 0 l.length 11),(encPd p).cells,pzc,stC ⟨nodes,pods,buds⟩ (.msl 6 0 l.length 11),[.str p.name],stC ⟨nodes,pods,buds⟩ (.msl 6 0 l.length 11),pcs l++Z]:=by
   intro nb hn
   have h6:6<nb:=hn
   have e1:(stC ⟨nodes,pods,buds⟩ (.msl 6 0 l.length 11)).all (in2 nb 0)=true:=by simp[in2,in1,in0,h6]
   have e2:(pcs l++Z).all (in2 nb 0)=true:=List.all_eq_true.2 fun x hx=>in2_d0 (List.all_eq_true.1 hQ x hx)
   simp only[List.all_cons (f:=fun(b:List AV)=>b.all (in2 nb 0)),List.all_nil (f:=fun(b:List AV)=>b.all (in2 nb 0)),e1,e2]
   rfl
  obtain⟨f,hb⟩:=bs_any (B:=[stC ⟨nodes,pods,buds⟩ (.msl 6 0 l.length 11),(encPd p).cells,pzc,stC ⟨nodes,pods,buds⟩ (.msl 6 0 l.length 11),[.str p.name],stC ⟨nodes,pods,buds⟩ (.msl 6 0 l.length 11),pcs l++Z]) (kk:=6) (q:=(l.takeWhile (before p.name)).length) (nm:=p.name) rfl hT7 rfl (by omega) twl (tw_below _ l) (tw_above p.name l hsl)
  have hbs:=does_bsl (B:=[stC ⟨nodes,pods,buds⟩ (.msl 6 0 l.length 11),(encPd p).cells,pzc,stC ⟨nodes,pods,buds⟩ (.msl 6 0 l.length 11),[.str p.name],stC ⟨nodes,pods,buds⟩ (.msl 6 0 l.length 11),pcs l++Z]) p
  have hin:=ins_any (B:=[stC ⟨nodes,pods,buds⟩ (.msl 6 0 l.length 11),(encPd p).cells,pzc,stC ⟨nodes,pods,buds⟩ (.msl 6 0 l.length 11),[.str p.name],stC ⟨nodes,pods,buds⟩ (.msl 6 0 l.length 11),pcs l++Z,(encPd p).cells]) (kk:=6) (kv:=7) (m:=l.length) (q:=(l.takeWhile (before p.name)).length) (p:=p) (by decide) rfl rfl rfl twl (by omega) hZ hZ0
  rw[←hputl]at hin
  have hd':Does cfg (.callM (.c (.func 27 [])) [.c (encSt ⟨nodes,pods,buds⟩),.c (.str p.name)]) ⟨[(encSt ⟨nodes,pods,buds⟩).cells,(encPd p).cells,pzc],[],[]⟩ (stA ⟨nodes,pods,buds⟩ (.msl 6 0 l.length 11)) ⟨[(encSt ⟨nodes,pods,buds⟩).cells,(encPd p).cells,pzc,stC ⟨nodes,pods,buds⟩ (.msl 6 0 l.length 11),[.str p.name],stC ⟨nodes,pods,buds⟩ (.msl 6 0 l.length 11),pcs l++Z],[],[]⟩:=hd
  have hbs':Does cfg (.bsliceM 11 [.c (encPd p)]) ⟨[stC ⟨nodes,pods,buds⟩ (.msl 6 0 l.length 11),(encPd p).cells,pzc,stC ⟨nodes,pods,buds⟩ (.msl 6 0 l.length 11),[.str p.name],stC ⟨nodes,pods,buds⟩ (.msl 6 0 l.length 11),pcs l++Z],[],[]⟩ (.msl 7 0 1 11) ⟨[stC ⟨nodes,pods,buds⟩ (.msl 6 0 l.length 11),(encPd p).cells,pzc,stC ⟨nodes,pods,buds⟩ (.msl 6 0 l.length 11),[.str p.name],stC ⟨nodes,pods,buds⟩ (.msl 6 0 l.length 11),pcs l++Z,(encPd p).cells],[],[]⟩:=hbs
  have hin':Does cfg (.callM (.c (.func 119 [])) [.c (.msl 6 0 l.length 11),.c (.int .i64 ((l.takeWhile (before p.name)).length:Nat)),.c (.msl 7 0 1 11)]) ⟨[stC ⟨nodes,pods,buds⟩ (.msl 6 0 l.length 11),(encPd p).cells,pzc,stC ⟨nodes,pods,buds⟩ (.msl 6 0 l.length 11),[.str p.name],stC ⟨nodes,pods,buds⟩ (.msl 6 0 l.length 11),pcs l++Z,(encPd p).cells],[],[]⟩ (.msl 8 0 (l.length+1) 11) ⟨[stC ⟨nodes,pods,buds⟩ (.msl 6 0 l.length 11),(encPd p).cells,pzc,stC ⟨nodes,pods,buds⟩ (.msl 6 0 l.length 11),[.str p.name],stC ⟨nodes,pods,buds⟩ (.msl 6 0 l.length 11),[],(encPd p).cells,pcs (putL p pods)],[],[]⟩:=hin
  have out:∀b0 b1 b2 b3 b4 b5 b6 b7,RetPut ⟨nodes,pods,buds⟩ p (.ret (stA ⟨nodes,pods,buds⟩ (.msl 8 0 (l.length+1) 11)),⟨[b0,b1,b2,b3,b4,b5,b6,b7,pcs (putL p pods)],[],[]⟩):=fun b0 b1 b2 b3 b4 b5 b6 b7=>⟨8,_,by rw[hlen],rfl⟩
  clear hd hbs hin hT7 hQ hZ0 hl
  generalize(l.takeWhile (before p.name)).length=q at hb hin'
  generalize pcs l++Z=Q at hb hd' hbs' hin'
  generalize pcs (putL p pods)=Q2 at hin' out
  exact let ζ1:List AV:=[.sl .sh (List.map encN {nodes:=nodes,pods:=pods,buds:=buds:St}.nodes),.msl 8 0 (l.length+1) 11,.sl .sh (List.map encB {nodes:=nodes,pods:=pods,buds:=buds:St}.buds)];let ζ2:Heap:={boxes:=[stC {nodes:=nodes,pods:=pods,buds:=buds:St} (.msl 6 0 l.length 11),(encPd p).cells,pzc,stC {nodes:=nodes,pods:=pods,buds:=buds:St} (.msl 6 0 l.length 11),[.str p.name],stC {nodes:=nodes,pods:=pods,buds:=buds:St} (.msl 6 0 l.length 11),Q],toks:=[],loops:=[]:Heap};let ζ3:List AV:=[.str p.name,.str p.owner,.int .i64 p.prio,.sl .sh (p.need.map encA),.sl .sh (p.labels.map encP),.sl .sh (p.sel.map encM),.sl .sh (p.tols.map encL),.str p.key,.int .i64 p.most,.str p.node,.bool p.hold];let ζ4:List AV:=[.sl .sh (List.map encN {nodes:=nodes,pods:=pods,buds:=buds:St}.nodes),.msl 6 0 l.length 11,.sl .sh (List.map encB {nodes:=nodes,pods:=pods,buds:=buds:St}.buds)];gG 90 [] trivial (.effY hd'<|.effCM [.msl 6 0 l.length 11,.str p.name,.func 117 []] hb rfl<|.effY hin'<|.fin ((.ret (.agg ζ1),{boxes:=[ζ1,ζ3,ζ1,ζ4,[.str p.name],ζ4,[],ζ3,Q2],toks:=[],loops:=[]:Heap})) (by exact out _ _ _ _ _ _ _ _))
 |none h0 hl=>
  obtain⟨nodes,pods,buds⟩:=s
  have hputl:putL p pods=[p]:=by
   have hl':offP p.name pods=[]:=hl
   unfold putL;rw[hl'];rfl
  have hT3:Tame [stC ⟨nodes,pods,buds⟩ (.sl .nil []),(encPd p).cells,pzc]:=fun nb hn=>rfl
  have hb:=bs_nil p.name hT3
  have hbs:Does cfg (.bsliceM 11 [.c (encPd p)]) ⟨[stC ⟨nodes,pods,buds⟩ (.sl .nil []),(encPd p).cells,pzc],[],[]⟩ (.msl 3 0 1 11) ⟨[stC ⟨nodes,pods,buds⟩ (.sl .nil []),(encPd p).cells,pzc,(encPd p).cells],[],[]⟩:=does_bsl p
  have hin:Does cfg (.callM (.c (.func 119 [])) [.c (.sl .nil []),.c (.int .i64 0),.c (.msl 3 0 1 11)]) ⟨[stC ⟨nodes,pods,buds⟩ (.sl .nil []),(encPd p).cells,pzc,(encPd p).cells],[],[]⟩ (.msl 4 0 1 11) ⟨[stC ⟨nodes,pods,buds⟩ (.sl .nil []),(encPd p).cells,pzc,(encPd p).cells,pcs [p]],[],[]⟩:=ins_nil (p:=p) rfl
  have hd':Does cfg (.callM (.c (.func 27 [])) [.c (encSt ⟨nodes,pods,buds⟩),.c (.str p.name)]) ⟨[(encSt ⟨nodes,pods,buds⟩).cells,(encPd p).cells,pzc],[],[]⟩ (stA ⟨nodes,pods,buds⟩ (.sl .nil [])) ⟨[(encSt ⟨nodes,pods,buds⟩).cells,(encPd p).cells,pzc],[],[]⟩:=hd
  have out:∀b0 b1 b2 b3,RetPut ⟨nodes,pods,buds⟩ p (.ret (stA ⟨nodes,pods,buds⟩ (.msl 4 0 1 11)),⟨[b0,b1,b2,b3,pcs [p]],[],[]⟩):=fun b0 b1 b2 b3=>⟨4,_,by rw[hputl];rfl,by rw[hputl];rfl⟩
  generalize pcs [p]=Q2 at hin out
  exact let ζ1:List AV:=[.sl .sh (List.map encN {nodes:=nodes,pods:=pods,buds:=buds:St}.nodes),.msl 4 0 1 11,.sl .sh (List.map encB {nodes:=nodes,pods:=pods,buds:=buds:St}.buds)];let ζ2:List AV:=[.str p.name,.str p.owner,.int .i64 p.prio,.sl .sh (p.need.map encA),.sl .sh (p.labels.map encP),.sl .sh (p.sel.map encM),.sl .sh (p.tols.map encL),.str p.key,.int .i64 p.most,.str p.node,.bool p.hold];let ζ3:Heap:={boxes:=[stC {nodes:=nodes,pods:=pods,buds:=buds:St} (.sl .nil []),(encPd p).cells,pzc],toks:=[],loops:=[]:Heap};let ζ4:Heap:={boxes:=[(encSt {nodes:=nodes,pods:=pods,buds:=buds:St}).cells,(encPd p).cells,pzc],toks:=[],loops:=[]:Heap};gG 90 [] trivial (.effY hd'<|.effY hb<|.effY hin<|.fin ((.ret (.agg ζ1),{boxes:=[ζ1,ζ2,ζ1,ζ2,Q2],toks:=[],loops:=[]:Heap})) (by exact out _ _ _ _))
theorem put_gives(s:St)(p:Pod)(hs:s.pods.length≤1000)(hsrt:srtP s.pods):GivesF cfg 45 [encSt s,encPd p] (encSt (putS s p)):=by
 obtain⟨r,h,k,bs,rfl,hk⟩:=put_goes s p hs hsrt
 exact⟨_,_,(l45 _ _).trans h,out_stA rfl rfl (frz_pods (Z:=[]) (by rw[List.append_nil];exact hk) rfl)⟩
end Go.Aa.T
set_option linter.unusedVariables false
set_option linter.unusedSimpArgs false
set_option maxRecDepth 100000
namespace Go.Aa.T
open Go.Aa Go.Proofs
theorem less_lt{x y:List UInt8}:Op.bytesLess x y=true↔x<y:=by rw[bl_eq,decide_eq_true_eq]
theorem ord_of_not{x y:List UInt8}(h:¬(Op.bytesLess x y||x==y)=true):Op.bytesLess y x=true:=bl_not (by simpa only[Bool.not_eq_true]using h)
theorem mem_tw{X:Type}{f:X→Bool}{l:List X}{x:X}(h:x∈l.takeWhile f):f x=true:=by
 obtain⟨k,hk,rfl⟩:=List.getElem_of_mem h
 refine tw_below f l k _ ?_ hk
 have:=(tw_take f l).1
 have h2:(l.take (l.takeWhile f).length)[k]?=some (l.takeWhile f)[k]:=by rw[this];exact List.getElem?_eq_getElem hk
 rwa [List.getElem?_take_of_lt hk]at h2
theorem ckAl_ordX{X:Type}{ck:X→Int}{nm:X→List UInt8}{s:List X}:∀{post:List X}{i:Nat},ckAl ck nm s i post=0→s.drop i=post→∀(j:Nat)(x p:X),i≤j+1→s[j+1]?=some x→s[j]?=some p→Op.bytesLess (nm p) (nm x)=true
 |[],i,_,hd,j,x,p,hi,hx,hp=>by
  have:=drop_ge hd
  have h2:j+1<s.length:=(List.getElem?_eq_some_iff.1 hx).1
  omega
 |y::post,i,h,hd,j,x,p,hi,hx,hp=>by
  unfold ckAl at h
  split at h
  ·split at h
   ·cases h
   ·rename_i ho
    rcases Nat.lt_or_ge i (j+1)with hlt|hge
    ·exact ckAl_ordX h (drop_next hd) j x p (by omega) hx hp
    ·have e:i=j+1:=by omega
     subst e
     have ey:y=x:=by
      have:=drop_at hd
      rw[hx]at this
      exact(Option.some.inj this).symm
     subst ey
     simp only[ordG,hp,Bool.not_eq_true]at ho
     exact ord_of_not (by rw[ho];decide)
  ·rename_i hx0;exact absurd h hx0
theorem names_ltX{X:Type}{most:Nat}{ck:X→Int}{nm:X→List UInt8}{s:List X}(h:ckAll most ck nm s=0):∀(d i:Nat)(x y:X),s[i]?=some x→s[i+d+1]?=some y→Op.bytesLess (nm x) (nm y)=true:=by
 have h0:ckAl ck nm s 0 s=0:=by
  unfold ckAll at h
  split at h
  ·exact h
  ·cases h
 intro d
 induction d with
 |zero=>intro i x y hx hy;exact ckAl_ordX h0 rfl i y x (by omega) hy hx
 |succ d ih=>
  intro i x y hx hy
  obtain⟨z,hz⟩:∃z,s[i+d+1]?=some z:=⟨s[i+d+1]'(by have:=(List.getElem?_eq_some_iff.1 hy).1;omega),List.getElem?_eq_getElem _⟩
  have a:=less_lt.1 (ih i x z hx hz)
  have b:=less_lt.1 (ckAl_ordX h0 rfl (i+d+1) y z (by omega) hy hz)
  exact less_lt.2 (List.lt_trans a b)
theorem ck_srt{s:St}(h:ckSt s=0):srtP s.pods:=by
 have h1:ckAll 128 ckPd Pod.name s.pods=0:=firstE_zero h _ (by simp)
 refine List.pairwise_iff_getElem.2 fun i j hi hj hij=> ?_
 exact names_ltX h1 (j-i-1) i _ _ (List.getElem?_eq_getElem hi) (by rw[show i+(j-i-1)+1=j by omega];exact List.getElem?_eq_getElem hj)
theorem off_mem{nm:List UInt8}{l:List Pod}{x:Pod}(h:x∈offP nm l):x∈l∧x.name≠nm:=by
 have:=List.mem_filter.1 h
 exact⟨this.1,by simpa using this.2⟩
theorem srt_cut{nm:List UInt8}{l:List Pod}(h:srtP l):(∀x∈(offP nm l).takeWhile (before nm),Op.bytesLess x.name nm=true)∧(∀x∈(offP nm l).dropWhile (before nm),Op.bytesLess nm x.name=true):=by
 have hs:=off_srt (nm:=nm) h
 refine⟨fun x hx=> ?_,fun x hx=> ?_⟩
 ·exact(mem_tw (f:=before nm) hx:before nm x=true)
 ·obtain⟨k,hk,rfl⟩:=List.getElem_of_mem hx
  have tw:=(tw_take (before nm) (offP nm l)).2
  have hx2:(offP nm l)[((offP nm l).takeWhile (before nm)).length+k]?=some ((offP nm l).dropWhile (before nm))[k]:=by
   rw[←List.getElem?_drop,tw];exact List.getElem?_eq_getElem hk
  have h1:=tw_above nm (offP nm l) hs _ _ hx2 (Nat.le_add_right _ _)
  have h2:=(off_mem (List.mem_of_getElem? hx2)).2
  refine ord_of_not ?_
  have h1':Op.bytesLess (((offP nm l).dropWhile (before nm))[k]).name nm=false:=h1
  rw[h1',Bool.false_or]
  simpa using h2
theorem put_srt{p:Pod}{l:List Pod}(h:srtP l):srtP (putL p l):=by
 have hs:=off_srt (nm:=p.name) h
 obtain⟨h1,h2⟩:=srt_cut (nm:=p.name) h
 have he:offP p.name l=(offP p.name l).takeWhile (before p.name)++(offP p.name l).dropWhile (before p.name):=List.takeWhile_append_dropWhile.symm
 rw[he]at hs
 obtain⟨a1,a2,a3⟩:=List.pairwise_append.1 hs
 refine List.pairwise_append.2 ⟨a1,List.pairwise_cons.2 ⟨fun x hx=>h2 x hx,a2⟩,fun x hx y hy=> ?_⟩
 rcases List.mem_cons.1 hy with rfl|hy
 ·exact h1 x hx
 ·exact a3 x hx y hy
theorem put_len(p:Pod)(l:List Pod):(putL p l).length=(offP p.name l).length+1:=by
 have he:=congrArg List.length (List.takeWhile_append_dropWhile (p:=before p.name) (l:=offP p.name l))
 unfold putL
 simp only[List.length_append,List.length_cons]at he⊢
 omega
end Go.Aa.T
set_option linter.unusedVariables false
set_option linter.unusedSimpArgs false
set_option maxRecDepth 100000
namespace Go.Aa.T
open Go.Aa Go.Proofs
theorem gf45{a b:St}{p:Pod}(h:GivesF cfg 45 [encSt a,encPd p] (encSt b))(H:Heap):Does cfg (.call (.c (.func 45 [])) [.c (encSt a),.c (encPd p)]) H (encSt b) H:=does_callF h rfl rfl H
theorem gf27{a b:St}{nm:List UInt8}(h:GivesF cfg 27 [encSt a,.str nm] (encSt b))(H:Heap):Does cfg (.call (.c (.func 27 [])) [.c (encSt a),.c (.str nm)]) H (encSt b) H:=does_callF h rfl rfl H
end Go.Aa.T
set_option linter.unusedVariables false
set_option linter.unusedSimpArgs false
set_option maxRecDepth 100000
namespace Go.Aa.T
open Go.Aa Go.Proofs
theorem gf157{s:St}{key:List UInt8}{l:List AV}(h:GivesF cfg 157 [encSt s,.str key] (.sl .sh l))(H:Heap):Does cfg (.call (.c (.func 157 [])) [.c (encSt s),.c (.str key)]) H (.sl .sh l) H:=does_callF h rfl rfl H
def leastS(f:List UInt8→Nat)(own:List UInt8):List (List UInt8)→Int→Int
 |[],m=>m
 |d::l,m=>leastS f own l (if d=own then m else if(f d:Int)<m then(f d:Int)else m)
def skewS(s:St)(p:Pod)(nm:List UInt8):Int×Bool:=
 if p.key=[]then(0,true)else match domS s nm p.key with
 |none=>(0,false)
 |some own=>((countS s p own:Int)+1-leastS (countS s p) own (domsS s p.key) ((countS s p own:Int)+1),true)
theorem sk_loop(s:St)(p:Pod)(nm own:List UInt8)(ds:List (List UInt8))(hc:∀d,Gives cfg 156 [encSt s,encPd p,.str d] (.int .i64 (countS s p d)))(here:Int)(hh:0≤here∧here≤100000)(hn:ds.length≤1000):
 ∀(post:List (List UInt8))(i:Nat)(hd:ds.drop i=post)(m:Int)(hm:0≤m)(hm2:m≤100000)(T:Env)
 (hT:Has T [(0,.ptr 0 0),(2,.ptr 1 0),(3,.ptr 3 0),(4,.str own),(5,.int .i64 here),(6,.int .i64 m),(23,.sl .sh (ds.map .str)),(24,.int .i64 ds.length),(25,.int .i64 i)]),
 Goes cfg a154 k154_0 T ⟨[(encSt s).cells,(encPd p).cells,[.str nm],[.int .i64 0]],[],[]⟩ (fun r=>r=(.ret (.tuple []),⟨[(encSt s).cells,(encPd p).cells,[.str nm],[.int .i64 (here-leastS (countS s p) own post m)]],[],[]⟩)):=by
 intro post
 induction post with
 |nil=>
  intro i hd m hm hm2 T hT
  have hge:=drop_ge hd
  rw[show leastS (countS s p) own [] m=m from rfl]
  have sb:binA .sub (.int .i64 here) (.int .i64 m)=some (.int .i64 (here-m)):=subI (by omega) (by omega)
  exact gG 60 _ hT (.no (dF ((↑i:Int)<(↑ds.length:Int)))<|.bin sb<|.fin ((.ret (.tuple []),{boxes:=[[.sl .sh (s.nodes.map encN),.sl .sh (s.pods.map encPd),.sl .sh (s.buds.map encB)],[.str p.name,.str p.owner,.int .i64 p.prio,.sl .sh (p.need.map encA),.sl .sh (p.labels.map encP),.sl .sh (p.sel.map encM),.sl .sh (p.tols.map encL),.str p.key,.int .i64 p.most,.str p.node,.bool p.hold],[.str nm],[.int .i64 (here-m)]],toks:=[],loops:=[]:Heap})) rfl)
 |cons d post ih=>
  intro i hd m hm hm2 T hT
  have hlt:=drop_lt hd
  have hnx:=drop_next hd
  have hxi:idxA 1 (.sl .sh (ds.map .str)) (.int .i64 (i:Nat))=some (.ref [.str d]):=idx_row (f:=AV.str) hd rfl
  by_cases h:d=own
  ·have e:leastS (countS s p) own (d::post) m=leastS (countS s p) own post m:=by simp only[leastS,if_pos h]
   rw[e]
   have ih':=ih (i+1) hnx m hm hm2
   subst h
   exact gG 120 _ hT (.yes (dT ((↑i:Int)<(↑ds.length:Int)))<|.idx hxi<|.no (show(!d==d)=false from by have hh:(d==d)=true:=(by simp);simp[hh])<|.bin (iI i)<|.cutQ k154_0 [(0,.ptr 0 0),(2,.ptr 1 0),(3,.ptr 3 0),(4,.str d),(5,.int .i64 here),(6,.int .i64 m),(23,.sl .sh (List.map .str ds)),(24,.int .i64 (↑ds.length)),(25,.int .i64 (↑(i+1)))] ({boxes:=[[.sl .sh (s.nodes.map encN),.sl .sh (s.pods.map encPd),.sl .sh (s.buds.map encB)],[.str p.name,.str p.owner,.int .i64 p.prio,.sl .sh (p.need.map encA),.sl .sh (p.labels.map encP),.sl .sh (p.sel.map encM),.sl .sh (p.tols.map encL),.str p.key,.int .i64 p.most,.str p.node,.bool p.hold],[.str nm],[.int .i64 0]],toks:=[],loops:=[]:Heap}) (fun T hT=>(ih' T hT)))
  ·have hcd:=hc d
   generalize hq:countS s p d=c at hcd
   have e:leastS (countS s p) own (d::post) m=leastS (countS s p) own post (if(c:Int)<m then(c:Int)else m):=by simp only[leastS,if_neg h,hq]
   rw[e]
   have ih':=ih (i+1) hnx (if(c:Int)<m then(c:Int)else m) (by split<;>omega) (by split<;>omega)
   have ih':∀T,Has T [(0,.ptr 0 0),(2,.ptr 1 0),(3,.ptr 3 0),(4,.str own),(5,.int .i64 here),(6,.int .i64 (if false=true then(if(c:Int)>m then(c:Int)else m)else if(c:Int)<m then(c:Int)else m)),(23,.sl .sh (ds.map .str)),(24,.int .i64 ds.length),(25,.int .i64 ((i+1:Nat):Int))]→_:=ih'
   exact let ζ1:List AV:=[.str p.name,.str p.owner,.int .i64 p.prio,.sl .sh (p.need.map encA),.sl .sh (p.labels.map encP),.sl .sh (p.sel.map encM),.sl .sh (p.tols.map encL),.str p.key,.int .i64 p.most,.str p.node,.bool p.hold];let ζ2:List AV:=[.sl .sh (s.nodes.map encN),.sl .sh (s.pods.map encPd),.sl .sh (s.buds.map encB)];gG 120 _ hT (.yes (dT ((↑i:Int)<(↑ds.length:Int)))<|.idx hxi<|.yes (show(!d==own)=true from by have hh:¬((d==own)=true):=(by simpa using h);simp[hh])<|.callI hcd<|.bin (iI i)<|.cutQ k154_0 [(0,.ptr 0 0),(2,.ptr 1 0),(3,.ptr 3 0),(4,.str own),(5,.int .i64 here),(6,.int .i64 (if false=true then if(↑c:Int)>m then(↑c:Int)else m else if(↑c:Int)<m then(↑c:Int)else m)),(23,.sl .sh (List.map .str ds)),(24,.int .i64 (↑ds.length)),(25,.int .i64 (↑(i+1)))] ({boxes:=[ζ2,ζ1,[.str nm],[.int .i64 0]],toks:=[],loops:=[]:Heap}) (fun T hT=>(ih' T hT)))
theorem doms_len(s:St)(key:List UInt8):(domsS s key).length≤s.nodes.length:=by
 have h1:=vals_len key s.nodes
 have h2:=uq_len (isort (valsOf key s.nodes))
 rw[isort_length]at h2
 unfold domsS namesOf
 omega
theorem sk_all(s:St)(p:Pod)(nm:List UInt8)(hp:s.pods.length≤1000)(hs:s.nodes.length≤1000)(hl:∀n∈s.nodes,n.labels.length<9223372036854775807)(hk:¬p.key=[]):
 ∃e H1,Goes cfg a154 [.c c154] (initEnv [.ptr 0 0,.ptr 2 0,.ptr 1 0,.ptr 3 0]) ⟨[(encSt s).cells,(encPd p).cells,[.str nm],[.int .i64 0]],[],[]⟩ (fun r=>((e=0∧r.1=.ret (.tuple []))∨(e≠0∧r.1=.pan (stopV e)))∧r.2=H1∧trunc 4 0 (.int .i64 e) H1=⟨[(encSt s).cells,(encPd p).cells,[.str nm],[.int .i64 (skewS s p nm).1]],[],[]⟩)∧(skewS s p nm).2=decide (e=0):=by
 cases hd:domS s nm p.key with
 |none=>
  have hn:=dom_none s nm p.key (by omega) hl hd
  have e1:skewS s p nm=(0,false):=by unfold skewS;rw[if_neg hk,hd]
  rw[e1]
  refine⟨10,⟨[(encSt s).cells,(encPd p).cells,[.str nm],[.int .i64 0]],[],[]⟩,?_,rfl⟩
  exact let ζ1:List AV:=[.sl .sh (s.nodes.map encN),.sl .sh (s.pods.map encPd),.sl .sh (s.buds.map encB)];gG 90 [] trivial (.callP ([.agg ζ1,.str nm,.str p.key]) ({boxes:=[ζ1,[.str p.name,.str p.owner,.int .i64 p.prio,.sl .sh (p.need.map encA),.sl .sh (p.labels.map encP),.sl .sh (p.sel.map encM),.sl .sh (p.tols.map encL),.str p.key,.int .i64 p.most,.str p.node,.bool p.hold],[.str nm],[.int .i64 0]],toks:=[],loops:=[]:Heap}) hn ⟨rfl,rfl⟩ rfl (by exact⟨.inr ⟨by decide,rfl⟩,rfl,trunc_self⟩))
 |some own=>
  have hy:=dom_some s nm p.key own (by omega) hl hd
  have hc:=fun d=>count_any s p d hp (by omega) hl
  have hcl:countS s p own≤s.pods.length:=List.length_filter_le _ _
  have e1:skewS s p nm=((countS s p own:Int)+1-leastS (countS s p) own (domsS s p.key) ((countS s p own:Int)+1),true):=by unfold skewS;rw[if_neg hk,hd]
  rw[e1]
  have dl:=doms_len s p.key
  have ds:=doms_any s p.key hs hl
  have hco:=hc own
  have lo:=sk_loop s p nm own (domsS s p.key) hc ((countS s p own:Int)+1) (by omega) (by omega) (domsS s p.key) 0 rfl ((countS s p own:Int)+1) (by omega) (by omega)
  refine⟨0,⟨[(encSt s).cells,(encPd p).cells,[.str nm],[.int .i64 ((countS s p own:Int)+1-leastS (countS s p) own (domsS s p.key) ((countS s p own:Int)+1))]],[],[]⟩,?_,rfl⟩
  have key:Goes cfg a154 [.c c154] (initEnv [.ptr 0 0,.ptr 2 0,.ptr 1 0,.ptr 3 0]) ⟨[(encSt s).cells,(encPd p).cells,[.str nm],[.int .i64 0]],[],[]⟩ (fun r=>r=(.ret (.tuple []),⟨[(encSt s).cells,(encPd p).cells,[.str nm],[.int .i64 ((countS s p own:Int)+1-leastS (countS s p) own (domsS s p.key) ((countS s p own:Int)+1))]],[],[]⟩)):=by
   generalize leastS (countS s p) own (domsS s p.key) ((countS s p own:Int)+1)=le at lo⊢
   generalize domsS s p.key=dd at*
   generalize countS s p own=c at*
   have ad:binA .add (.int .i64 (c:Int)) (.int .i64 1)=some (.int .i64 ((c:Int)+1)):=addI (by omega) (by omega)
   exact let ζ2:List AV:=[.sl .sh (s.nodes.map encN),.sl .sh (s.pods.map encPd),.sl .sh (s.buds.map encB)];let ζ1:Heap:={boxes:=[ζ2,[.str p.name,.str p.owner,.int .i64 p.prio,.sl .sh (p.need.map encA),.sl .sh (p.labels.map encP),.sl .sh (p.sel.map encM),.sl .sh (p.tols.map encL),.str p.key,.int .i64 p.most,.str p.node,.bool p.hold],[.str nm],[.int .i64 0]],toks:=[],loops:=[]:Heap};gG 90 [] trivial (.callI hy<|.callI hco<|.bin ad<|.effY (show Does cfg (.call (.c (.func 157 [])) [.c (encSt s),.c (.str p.key)]) ζ1 (.sl .sh (List.map .str dd)) ζ1 from gf157 ds _)<|.len (lM .sh .str dd)<|.cutQ k154_0 [(0,.ptr 0 0),(2,.ptr 1 0),(3,.ptr 3 0),(4,.str own),(5,.int .i64 ((↑c:Int)+(1:Int))),(6,.int .i64 ((↑c:Int)+(1:Int))),(23,.sl .sh (List.map .str dd)),(24,.int .i64 (↑dd.length)),(25,.int .i64 0)] (ζ1) (fun T hT=>(lo T hT)))
  exact Goes.imp key fun r hr=>by subst hr;exact⟨.inl ⟨rfl,rfl⟩,rfl,trunc_self⟩
theorem skew_any(s:St)(p:Pod)(nm:List UInt8)(hp:s.pods.length≤1000)(hs:s.nodes.length≤1000)(hl:∀n∈s.nodes,n.labels.length<9223372036854775807):
 Gives cfg 83 [encSt s,encPd p,.str nm] (.tuple [.int .i64 (skewS s p nm).1,.bool (skewS s p nm).2]):=by
 by_cases hk:p.key=[]
 ·have e:skewS s p nm=(0,true):=by unfold skewS;rw[if_pos hk]
  rw[e]
  refine Gives.run (l83 _ _) ?_
  exact gG 60 [] trivial (.yes (show(p.key==[])=true from(by simp[hk]))<|.fin ((.ret (.tuple [.int .i64 0,.bool true]),{boxes:=[[.sl .sh (s.nodes.map encN),.sl .sh (s.pods.map encPd),.sl .sh (s.buds.map encB)],[.str p.name,.str p.owner,.int .i64 p.prio,.sl .sh (p.need.map encA),.sl .sh (p.labels.map encP),.sl .sh (p.sel.map encM),.sl .sh (p.tols.map encL),.str p.key,.int .i64 p.most,.str p.node,.bool p.hold],[.str nm]],toks:=[],loops:=[]:Heap})) rfl)
 ·refine Gives.run (l83 _ _) ?_
  obtain⟨e,H1,⟨⟨a,H2⟩,hr,hR,hH,ht2⟩,h2⟩:=sk_all s p nm hp hs hl hk
  simp only at hH
  subst hH
  rw[h2]
  have ht:lim cfg (.fn 77) [.func 154 [.ptr 0 0,.ptr 2 0,.ptr 1 0,.ptr 3 0]] ⟨[(encSt s).cells,(encPd p).cells,[.str nm],[.int .i64 0]],[],[]⟩=some (.ret (.int .i64 e),H2):=by
   rw[lim_try rfl,l154,hr]
   rcases hR with⟨h0,h1⟩|⟨h0,h1⟩
   ·simp only at h1;subst h1;subst h0;rfl
   ·simp only at h1;subst h1;rfl
  have hd:=does_callE (xs:=[.func 154 [.ptr 0 0,.ptr 2 0,.ptr 1 0,.ptr 3 0]]) (caps:=[]) ht rfl rfl
  rw[show shutA (.int .i64 e)=.int .i64 e from rfl,show trunc (⟨[(encSt s).cells,(encPd p).cells,[.str nm],[.int .i64 0]],[],[]⟩:Heap).boxes.length (⟨[(encSt s).cells,(encPd p).cells,[.str nm],[.int .i64 0]],[],[]⟩:Heap).toks.length (.int .i64 e) H2=⟨[(encSt s).cells,(encPd p).cells,[.str nm],[.int .i64 (skewS s p nm).1]],[],[]⟩from ht2]at hd
  generalize(skewS s p nm).1=sk at hd⊢
  exact gG 120 [] trivial (.no (show(p.key==[])=false from Bool.eq_false_iff.2 (by simp[hk]))<|.effY hd<|.fin ((.ret (.tuple [.int .i64 sk,.bool (e==(0:Int))]),{boxes:=[[.sl .sh (s.nodes.map encN),.sl .sh (s.pods.map encPd),.sl .sh (s.buds.map encB)],[.str p.name,.str p.owner,.int .i64 p.prio,.sl .sh (p.need.map encA),.sl .sh (p.labels.map encP),.sl .sh (p.sel.map encM),.sl .sh (p.tols.map encL),.str p.key,.int .i64 p.most,.str p.node,.bool p.hold],[.str nm],[.int .i64 sk]],toks:=[],loops:=[]:Heap})) rfl)
end Go.Aa.T
set_option linter.unusedVariables false
set_option linter.unusedSimpArgs false
set_option maxRecDepth 100000
namespace Go.Aa.T
open Go.Aa Go.Proofs
section
variable{H:Heap}{g:FuncId}{k:Nat}{p:Tol→Bool}
theorem idxL_loop(hd:∀y:Tol,Does cfg (.call (.c (.func g [.ptr k 0])) [.c (encL y)]) H (.bool (p y)) H)(l:List Tol)(hn:l.length<9223372036854775807):∀(post:List Tol)(i:Nat)(hdr:l.drop i=post)(T:Env)
 (hT:Has T [(0,.sl .sh (l.map encL)),(1,.func g [.ptr k 0]),(7,.int .i64 l.length),(8,.int .i64 i)]),
 Goes cfg a216 k216_0 T H (fun r=>r=(.ret (.int .i64 (fidxB p post i)),H)):=by
 intro post
 induction post with
 |nil=>
  intro i hdr T hT
  have hge:=drop_ge hdr
  exact gG 60 _ hT (.no (dF ((↑i:Int)<(↑l.length:Int)))<|.fin ((.ret (.int .i64 (-1:Int)),H)) rfl)
 |cons x post ih=>
  intro i hdr T hT
  have hlt:=drop_lt hdr
  have hnx:=drop_next hdr
  have hdx:=hd x
  cases hp:p x with
  |true=>
   rw[hp]at hdx
   have e:fidxB p (x::post) i=i:=by simp[fidxB,hp]
   rw[e]
   exact let ζ1:List AV:=[.str x.key,.str x.val,.bool x.any];gG 60 _ hT (.yes (dT ((↑i:Int)<(↑l.length:Int)))<|.idx (iR 3 encL hdr)<|.load (rfl:loadA true 3 H (.ref ζ1)=some (.agg ζ1))<|.effY hdx<|.tt<|.fin ((.ret (.int .i64 ↑i),H)) rfl)
  |false=>
   rw[hp]at hdx
   have e:fidxB p (x::post) i=fidxB p post (i+1):=by simp[fidxB,hp]
   rw[e]
   exact let ζ1:List AV:=[.str x.key,.str x.val,.bool x.any];gG 60 _ hT (.yes (dT ((↑i:Int)<(↑l.length:Int)))<|.idx (iR 3 encL hdr)<|.load (rfl:loadA true 3 H (.ref ζ1)=some (.agg ζ1))<|.effY hdx<|.ff<|.bin (iI i)<|.cutQ k216_0 [(0,.sl .sh (l.map encL)),(1,.func g [.ptr k 0]),(7,.int .i64 (↑l.length)),(8,.int .i64 (↑(i+1)))] (H) (fun T hT=>(ih (i+1) hnx T hT)))
theorem idxL(hd:∀y:Tol,Does cfg (.call (.c (.func g [.ptr k 0])) [.c (encL y)]) H (.bool (p y)) H)(l:List Tol)(hn:l.length<9223372036854775807):
 lim cfg (.fn 216) [.sl .sh (l.map encL),.func g [.ptr k 0]] H=some (.ret (.int .i64 (fidxB p l 0)),H):=by
 rw[l216]
 have h:=idxL_loop hd l hn l 0 rfl
 have key:Goes cfg a216 [.c c216] (initEnv [.sl .sh (l.map encL),.func g [.ptr k 0]]) H (fun r=>r=(.ret (.int .i64 (fidxB p l 0)),H)):=by
  exact gG 60 [] trivial (.len (lM .sh encL l)<|.cutQ k216_0 [(0,.sl .sh (l.map encL)),(1,.func g [.ptr k 0]),(7,.int .i64 (↑l.length)),(8,.int .i64 0)] (H) (fun T hT=>(h T hT)))
 obtain⟨r,h,rfl⟩:=key
 exact h
end
theorem bears_one(t:Taint)(y:Tol):Does cfg (.call (.c (.func 202 [.ptr 0 0])) [.c (encL y)]) ⟨[t.cells],[],[]⟩ (.bool (one1 y t)) ⟨[t.cells],[],[]⟩:=by
 have key:Goes cfg a202 [.c c202] (initEnv [encL y,.ptr 0 0]) ⟨[t.cells],[],[]⟩ (fun r=>r=(.ret (.bool (one1 y t)),⟨[t.cells]++[(encL y).cells],[],[]⟩)):=by
  by_cases h1:y.key=[]
  ·by_cases h2:y.any=true
   ·have e:one1 y t=true:=by simp[one1,h1,h2]
    rw[e]
    exact gG 60 [] trivial (.yes (show(y.key==[])=true from(by simpa using h1))<|.tt<|.yes (show(y.any)=true from(by simpa using h2))<|.fin ((.ret (.bool true),{boxes:=[[.str t.key,.str t.val,.bool t.hard],[.str y.key,.str y.val,.bool y.any]],toks:=[],loops:=[]:Heap})) rfl)
   ·have e:one1 y t=(y.val==t.val):=by simp[one1,h1,h2]
    rw[e]
    exact gG 60 [] trivial (.yes (show(y.key==[])=true from(by simpa using h1))<|.tt<|.no (show(y.any)=false from Bool.eq_false_iff.2 (by simpa using h2))<|.fin ((.ret (.bool (y.val==t.val)),{boxes:=[[.str t.key,.str t.val,.bool t.hard],[.str y.key,.str y.val,.bool y.any]],toks:=[],loops:=[]:Heap})) rfl)
  ·by_cases h3:y.key=t.key
   ·by_cases h2:y.any=true
    ·have e:one1 y t=true:=by simp[one1,h3,h2]
     rw[e]
     exact gG 60 [] trivial (.no (show(y.key==[])=false from Bool.eq_false_iff.2 (by simpa using h1))<|.yes (show(y.key==t.key)=true from(by simpa using h3))<|.yes (show(y.any)=true from(by simpa using h2))<|.fin ((.ret (.bool true),{boxes:=[[.str t.key,.str t.val,.bool t.hard],[.str y.key,.str y.val,.bool y.any]],toks:=[],loops:=[]:Heap})) rfl)
    ·have e:one1 y t=(y.val==t.val):=by simp[one1,h3,h2]
     rw[e]
     exact gG 60 [] trivial (.no (show(y.key==[])=false from Bool.eq_false_iff.2 (by simpa using h1))<|.yes (show(y.key==t.key)=true from(by simpa using h3))<|.no (show(y.any)=false from Bool.eq_false_iff.2 (by simpa using h2))<|.fin ((.ret (.bool (y.val==t.val)),{boxes:=[[.str t.key,.str t.val,.bool t.hard],[.str y.key,.str y.val,.bool y.any]],toks:=[],loops:=[]:Heap})) rfl)
   ·have e:one1 y t=false:=by simp[one1,h1,h3]
    rw[e]
    exact gG 60 [] trivial (.no (show(y.key==[])=false from Bool.eq_false_iff.2 (by simpa using h1))<|.no (show(y.key==t.key)=false from Bool.eq_false_iff.2 (by simpa using h3))<|.fin ((.ret (.bool false),{boxes:=[[.str t.key,.str t.val,.bool t.hard],[.str y.key,.str y.val,.bool y.any]],toks:=[],loops:=[]:Heap})) rfl)
 obtain⟨r,h,rfl⟩:=key
 have h2:lim cfg (.fn 202) ([encL y]++[.ptr 0 0]) ⟨[t.cells],[],[]⟩=some (.ret (.bool (one1 y t)),⟨[t.cells]++[(encL y).cells],[],[]⟩):=by
  rw[l202];exact h
 have hd:=does_callE h2 rfl rfl
 rwa [show shutA (.bool (one1 y t))=.bool (one1 y t)from rfl,trunc_plain (bs:=[t.cells]) (ex:=[(encL y).cells]) (ts:=[]) rfl]at hd
def bearsB(l:List Tol)(t:Taint):Bool:=l.any fun y=>one1 y t
theorem bears_has(l:List Tol)(t:Taint)(hl:l.length<9223372036854775807):lim cfg (.fn 201) [.sl .sh (l.map encL),.func 202 [.ptr 0 0]] ⟨[t.cells],[],[]⟩=some (.ret (.bool (bearsB l t)),⟨[t.cells],[],[]⟩):=by
 rw[l201]
 have h0:=does_callE (xs:=[.sl .sh (l.map encL),.func 202 [.ptr 0 0]]) (caps:=[]) (idxL (g:=202) (k:=0) (bears_one t) l hl) rfl rfl
 rw[show shutA (.int .i64 (fidxB (fun y:Tol=>one1 y t) l 0))=.int .i64 (fidxB (fun y:Tol=>one1 y t) l 0)from rfl,
  show trunc (⟨[t.cells],[],[]⟩:Heap).boxes.length (⟨[t.cells],[],[]⟩:Heap).toks.length (.int .i64 (fidxB (fun y:Tol=>one1 y t) l 0)) ⟨[t.cells],[],[]⟩=⟨[t.cells],[],[]⟩from rfl]at h0
 have hf:decide (0≤fidxB (fun y:Tol=>one1 y t) l 0)=bearsB l t:=fidxB_ge (fun y:Tol=>one1 y t) l 0
 generalize fidxB (fun y:Tol=>one1 y t) l 0=c at h0 hf
 have key:Goes cfg a201 [.c c201] (initEnv [.sl .sh (l.map encL),.func 202 [.ptr 0 0]]) ⟨[t.cells],[],[]⟩ (fun r=>r=(.ret (.bool (bearsB l t)),⟨[t.cells],[],[]⟩)):=by
  exact let ζ1:Heap:={boxes:=[t.cells],toks:=[],loops:=[]:Heap};gG 60 [] trivial (.effY h0<|.fin ((.ret (.bool (decide ((0:Int)≤c))),{boxes:=[[.str t.key,.str t.val,.bool t.hard]],toks:=[],loops:=[]:Heap})) (by simp+zetaDelta [←hf,Taint.cells]))
 obtain⟨r,h,rfl⟩:=key
 exact h
theorem bears_any(l:List Tol)(t:Taint)(hl:l.length<9223372036854775807):Gives cfg 153 [.sl .sh (l.map encL),encT t] (.bool (bearsB l t)):=by
 refine Gives.run (l153 _ _) ?_
 have h0:=does_callE (xs:=[.sl .sh (l.map encL),.func 202 [.ptr 0 0]]) (caps:=[]) (bears_has l t hl) rfl rfl
 generalize bearsB l t=b at h0⊢
 rw[show trunc (⟨[t.cells],[],[]⟩:Heap).boxes.length (⟨[t.cells],[],[]⟩:Heap).toks.length (shutA (.bool b)) ⟨[t.cells],[],[]⟩=⟨[t.cells],[],[]⟩from rfl,show shutA (.bool b)=.bool b from rfl]at h0
 exact let ζ1:Heap:={boxes:=[t.cells],toks:=[],loops:=[]:Heap};gG 60 [] trivial (.effY h0<|.fin ((.ret (.bool b),{boxes:=[[.str t.key,.str t.val,.bool t.hard]],toks:=[],loops:=[]:Heap})) rfl)
def worstB(l:List Tol)(t:List Taint):Option Taint:=t.find? fun x=>x.hard&& !bearsB l x
theorem worst_loop(l:List Tol)(t:List Taint)(hl:l.length<9223372036854775807)(hn:t.length<9223372036854775807):∀(post:List Taint)(i:Nat)(bs:List (List AV))(hd:t.drop i=post)(T:Env)
 (hT:Has T [(0,.sl .sh (l.map encL)),(4,.ptr 0 0),(8,.sl .sh (t.map encT)),(9,.int .i64 t.length),(10,.int .i64 i)]),
 Goes cfg a82 k82_0 T ⟨[.str [],.str [],.bool false]::bs,[],[]⟩ (IsRet (worstV (worstB l post))):=by
 intro post
 induction post with
 |nil=>
  intro i bs hd T hT
  have hge:=drop_ge hd
  exact let ζ1:Heap:={boxes:=[.str [],.str [],.bool false]::bs,toks:=[],loops:=[]:Heap};gG 60 _ hT (.no (dF ((↑i:Int)<(↑t.length:Int)))<|.store (show storeA 3 ζ1 (.ptr 0 0) (.agg [.str [],.str [],.bool false])=some (ζ1)from store_box2 (cs:=[.str [],.str [],.bool false]) (cs':=[.str [],.str [],.bool false]) (by simp+zetaDelta) rfl (by simp+zetaDelta [List.set_append]))<|.fin ((.ret (.tuple [.agg [.str [],.str [],.bool false],.bool false]),ζ1)) rfl)
 |cons x post ih=>
  intro i bs hd T hT
  have hlt:=drop_lt hd
  have hnx:=drop_next hd
  have hb:=bears_any l x hl
  have ih':=ih (i+1) (bs++[x.cells]) hnx
  cases hh:x.hard with
  |false=>
   have e:worstB l (x::post)=worstB l post:=by simp[worstB,List.find?_cons,hh]
   rw[e]
   exact let ζ1:List AV:=[.str x.key,.str x.val,.bool x.hard];let ζ2:Heap:={boxes:=[.str [],.str [],.bool false]::(bs++[ζ1]),toks:=[],loops:=[]:Heap};gG 90 _ hT (.yes (dT ((↑i:Int)<(↑t.length:Int)))<|.idx (iR 3 encT hd)<|.load (rfl:loadA true 3 {boxes:=[.str [],.str [],.bool false]::bs,toks:=[],loops:=[]:Heap} (.ref ζ1)=some (.agg ζ1))<|.store (show storeA 3 {boxes:=[.str [],.str [],.bool false]::(bs++[[AV.str [],.str [],.bool false]]),toks:=[],loops:=[]:Heap} (.ptr ([.str [],.str [],.bool false]::bs).length 0) (.agg ζ1)=some (ζ2)from store_box2 (cs:=[.str [],.str [],.bool false]) (cs':=ζ1) (by simp+zetaDelta) rfl (by simp+zetaDelta [List.set_append]))<|.load (show loadA false 1 ζ2 (.ptr ([.str [],.str [],.bool false]::bs).length 2)=some (.bool x.hard)from load_box (cs:=ζ1) (by simp+zetaDelta) rfl)<|.no (show(x.hard)=false from Bool.eq_false_iff.2 (by simp+zetaDelta [hh]))<|.ff<|.bin (iI i)<|.cutQ k82_0 [(0,.sl .sh (l.map encL)),(4,.ptr 0 0),(8,.sl .sh (t.map encT)),(9,.int .i64 (↑t.length)),(10,.int .i64 (↑(i+1)))] (ζ2) (fun T hT=>(ih' T hT)))
  |true=>
   cases hbb:bearsB l x with
   |true=>
    rw[hbb]at hb
    have e:worstB l (x::post)=worstB l post:=by simp[worstB,List.find?_cons,hh,hbb]
    rw[e]
    exact let ζ1:List AV:=[.str x.key,.str x.val,.bool x.hard];let ζ2:Heap:={boxes:=[.str [],.str [],.bool false]::(bs++[ζ1]),toks:=[],loops:=[]:Heap};gG 90 _ hT (.yes (dT ((↑i:Int)<(↑t.length:Int)))<|.idx (iR 3 encT hd)<|.load (rfl:loadA true 3 {boxes:=[.str [],.str [],.bool false]::bs,toks:=[],loops:=[]:Heap} (.ref ζ1)=some (.agg ζ1))<|.store (show storeA 3 {boxes:=[.str [],.str [],.bool false]::(bs++[[AV.str [],.str [],.bool false]]),toks:=[],loops:=[]:Heap} (.ptr ([.str [],.str [],.bool false]::bs).length 0) (.agg ζ1)=some (ζ2)from store_box2 (cs:=[.str [],.str [],.bool false]) (cs':=ζ1) (by simp+zetaDelta) rfl (by simp+zetaDelta [List.set_append]))<|.load (show loadA false 1 ζ2 (.ptr ([.str [],.str [],.bool false]::bs).length 2)=some (.bool x.hard)from load_box (cs:=ζ1) (by simp+zetaDelta) rfl)<|.yes (show(x.hard)=true from(by omega))<|.load (show loadA true 3 ζ2 (.ptr ([.str [],.str [],.bool false]::bs).length 0)=some (.agg ζ1)from load_box (cs:=ζ1) (by simp+zetaDelta) rfl)<|.callI hb<|.ff<|.bin (iI i)<|.cutQ k82_0 [(0,.sl .sh (l.map encL)),(4,.ptr 0 0),(8,.sl .sh (t.map encT)),(9,.int .i64 (↑t.length)),(10,.int .i64 (↑(i+1)))] (ζ2) (fun T hT=>(ih' T hT)))
   |false=>
    rw[hbb]at hb
    have e:worstB l (x::post)=some x:=by simp[worstB,List.find?_cons,hh,hbb]
    rw[e]
    exact let ζ1:List AV:=[.str x.key,.str x.val,.bool x.hard];let ζ2:Heap:={boxes:=[.str [],.str [],.bool false]::(bs++[ζ1]),toks:=[],loops:=[]:Heap};let ζ3:Heap:={boxes:=ζ1::(bs++[ζ1]),toks:=[],loops:=[]:Heap};gG 90 _ hT (.yes (dT ((↑i:Int)<(↑t.length:Int)))<|.idx (iR 3 encT hd)<|.load (rfl:loadA true 3 {boxes:=[.str [],.str [],.bool false]::bs,toks:=[],loops:=[]:Heap} (.ref ζ1)=some (.agg ζ1))<|.store (show storeA 3 {boxes:=[.str [],.str [],.bool false]::(bs++[[AV.str [],.str [],.bool false]]),toks:=[],loops:=[]:Heap} (.ptr ([.str [],.str [],.bool false]::bs).length 0) (.agg ζ1)=some (ζ2)from store_box2 (cs:=[.str [],.str [],.bool false]) (cs':=ζ1) (by simp+zetaDelta) rfl (by simp+zetaDelta [List.set_append]))<|.load (show loadA false 1 ζ2 (.ptr ([.str [],.str [],.bool false]::bs).length 2)=some (.bool x.hard)from load_box (cs:=ζ1) (by simp+zetaDelta) rfl)<|.yes (show(x.hard)=true from(by omega))<|.load (show loadA true 3 ζ2 (.ptr ([.str [],.str [],.bool false]::bs).length 0)=some (.agg ζ1)from load_box (cs:=ζ1) (by simp+zetaDelta) rfl)<|.callI hb<|.tt<|.load (show loadA true 3 ζ2 (.ptr ([.str [],.str [],.bool false]::bs).length 0)=some (.agg ζ1)from load_box (cs:=ζ1) (by simp+zetaDelta) rfl)<|.store (show storeA 3 ζ2 (.ptr 0 0) (.agg ζ1)=some (ζ3)from store_box2 (cs:=[.str [],.str [],.bool false]) (cs':=ζ1) (by simp+zetaDelta) rfl (by simp+zetaDelta [List.set_append]))<|.fin ((.ret (.tuple [.agg ζ1,.bool true]),ζ3)) rfl)
theorem worst_any(l:List Tol)(t:List Taint)(hl:l.length<9223372036854775807)(hn:t.length<9223372036854775807):Gives cfg 82 [.sl .sh (l.map encL),.sl .sh (t.map encT)] (worstV (worstB l t)):=by
 refine Gives.run (l82 _ _) ?_
 have h:=worst_loop l t hl hn t 0 [] rfl
 exact gG 60 [] trivial (.len (lM .sh encT t)<|.cutQ k82_0 [(0,.sl .sh (l.map encL)),(4,.ptr 0 0),(8,.sl .sh (t.map encT)),(9,.int .i64 (↑t.length)),(10,.int .i64 0)] ({boxes:=[[.str [],.str [],.bool false]],toks:=[],loops:=[]:Heap}) (fun T hT=>(h T hT)))
end Go.Aa.T
set_option linter.unusedVariables false
set_option linter.unusedSimpArgs false
set_option maxRecDepth 100000
namespace Go.Aa.T
open Go.Aa Go.Proofs
theorem must_ok(e:Int):Gives cfg 80 [.bool true,.int .i64 e] (.tuple []):=by
 refine Gives.run (l80 _ _) ?_
 exact gG 60 [] trivial (.ff<|.fin ((.ret (.tuple []),{boxes:=[],toks:=[],loops:=[]:Heap})) rfl)
theorem must_no{e:Int}(he:¬e=0):Pans cfg 80 [.bool false,.int .i64 e] (stopV e):=by
 have h:=stop_pan he
 refine Pans.run (l80 _ _) ?_
 exact gG 60 [] trivial (.tt<|.callP ([.int .i64 e]) ({boxes:=[],toks:=[],loops:=[]:Heap}) h ⟨rfl,rfl⟩ rfl rfl)
theorem freeS_len(s:St)(hs:StIn s)(nd:List UInt8):(freeS s nd).1.length≤8:=by
 unfold freeS freeG
 split
 ·refine(subV_rg ?_).2
  unfold capOf
  split
  ·exact fun x hx=>by cases hx
  ·rename_i n hf;exact(hs.cap n (findG_mem hf)).rg
 ·simp
theorem drop_inF{s:St}(h:StIn s)(nm:List UInt8):StIn (dropS s nm):=by
 have l:=off_len nm s.pods
 exact⟨h.nodes,by show(offP nm s.pods).length≤_;have:=h.pods;omega,h.cap,fun p hp=>h.need p (off_mem hp).1⟩
def fitG(s:St)(p:Pod)(nm:List UInt8)(sk:Int)(ok:Bool):Int:=match findG Node.name s.nodes nm with
 |none=>3
 |some n=>if(!n.cordon&&matchB n.labels p.sel)=true then(if(worstB p.tols n.taints).isSome=true then 9 else
   (if(ok&&(p.key==[]||decide (sk≤p.most)))=true then(if(decide ((freeS s nm).2=0)&&fitsV p.need (freeS s nm).1)=true then 0 else 7)else 10))else 8
structure PdIn(p:Pod):Prop where
 need:p.need.length<9223372036854775807
 labels:p.labels.length<9223372036854775807
 sel:p.sel.length<9223372036854775807
 tols:p.tols.length<9223372036854775807
structure NdIn(n:Node):Prop where
 labels:n.labels.length<9223372036854775807
 taints:n.taints.length<9223372036854775807
theorem fit_all(s:St)(hs:StIn s)(hn:∀n∈s.nodes,NdIn n)(p:Pod)(hp:PdIn p)(nm:List UInt8)(sk:Int)(ok:Bool)
 (h83:Gives cfg 83 [encSt s,encPd p,.str nm] (.tuple [.int .i64 sk,.bool ok])):
 Goes cfg a78 [.c c78] (initEnv [.ptr 0 0,.ptr 2 0,.ptr 1 0]) ⟨[(encSt s).cells,(encPd p).cells,[.str nm]],[],[]⟩ (ChkR (fitG s p nm sk ok)):=by
 have f:=findN_any s.nodes nm hs.nodes
 unfold fitG
 cases hf:findG Node.name s.nodes nm with
 |none=>
  rw[hf]at f
  simp only
  have m3:Pans cfg 80 [.bool false,.int .i64 3] (stopV 3):=must_no (by decide)
  exact let ζ1:List AV:=[.str [],.sl .sh [],.sl .sh [],.sl .sh [],.bool false];let ζ2:List AV:=[.sl .sh (s.nodes.map encN),.str nm];gG 120 [] trivial (.callK (ζ2) (.tuple [.agg ζ1,.bool false]) f<|.callP ([.bool false,.int .i64 3]) ({boxes:=[[.sl .sh (s.nodes.map encN),.sl .sh (s.pods.map encPd),.sl .sh (s.buds.map encB)],[.str p.name,.str p.owner,.int .i64 p.prio,.sl .sh (p.need.map encA),.sl .sh (p.labels.map encP),.sl .sh (p.sel.map encM),.sl .sh (p.tols.map encL),.str p.key,.int .i64 p.most,.str p.node,.bool p.hold],[.str nm],ζ1],toks:=[],loops:=[]:Heap}) m3 ⟨rfl,rfl⟩ rfl (by exact .inr ⟨by decide,rfl⟩))
 |some n=>
  rw[hf]at f
  have hni:=hn n (findG_mem hf)
  have mt:=match_any n.labels p.sel hni.labels hp.sel
  have m8:Pans cfg 80 [.bool false,.int .i64 8] (stopV 8):=must_no (by decide)
  simp only
  cases hc:n.cordon with
  |true=>
   rw[if_neg (by simp)]
   exact let ζ1:List AV:=[.str n.name,.sl .sh (n.cap.map encA),.sl .sh (n.labels.map encP),.sl .sh (n.taints.map encT),.bool n.cordon];let ζ2:List AV:=[.sl .sh (s.nodes.map encN),.str nm];gG 160 [] trivial (.callK (ζ2) (.tuple [.agg ζ1,.bool true]) f<|.callI (show Gives cfg 80 [.bool true,.int .i64 3] (.tuple [])from must_ok _)<|.no (show(!n.cordon)=false from by have hh:n.cordon=true:=(by exact hc);simp[hh])<|.callP ([.bool false,.int .i64 8]) ({boxes:=[[.sl .sh (s.nodes.map encN),.sl .sh (s.pods.map encPd),.sl .sh (s.buds.map encB)],[.str p.name,.str p.owner,.int .i64 p.prio,.sl .sh (p.need.map encA),.sl .sh (p.labels.map encP),.sl .sh (p.sel.map encM),.sl .sh (p.tols.map encL),.str p.key,.int .i64 p.most,.str p.node,.bool p.hold],[.str nm],ζ1],toks:=[],loops:=[]:Heap}) m8 ⟨rfl,rfl⟩ rfl (by exact .inr ⟨by decide,rfl⟩))
  |false=>
   cases hm:matchB n.labels p.sel with
   |false=>
    rw[hm]at mt
    rw[if_neg (by simp)]
    exact let ζ1:List AV:=[.str n.name,.sl .sh (n.cap.map encA),.sl .sh (n.labels.map encP),.sl .sh (n.taints.map encT),.bool n.cordon];let ζ2:List AV:=[.sl .sh (p.sel.map encM),.sl .sh (n.labels.map encP)];let ζ3:List AV:=[.sl .sh (s.nodes.map encN),.str nm];gG 160 [] trivial (.callK (ζ3) (.tuple [.agg ζ1,.bool true]) f<|.callI (show Gives cfg 80 [.bool true,.int .i64 3] (.tuple [])from must_ok _)<|.yes (show(!n.cordon)=true from by have hh:¬(n.cordon=true):=(by simp+zetaDelta [hc]);simp[hh])<|.callK (ζ2) (.bool false) mt<|.callP ([.bool false,.int .i64 8]) ({boxes:=[[.sl .sh (s.nodes.map encN),.sl .sh (s.pods.map encPd),.sl .sh (s.buds.map encB)],[.str p.name,.str p.owner,.int .i64 p.prio,.sl .sh (p.need.map encA),.sl .sh (p.labels.map encP),.sl .sh (p.sel.map encM),.sl .sh (p.tols.map encL),.str p.key,.int .i64 p.most,.str p.node,.bool p.hold],[.str nm],ζ1],toks:=[],loops:=[]:Heap}) m8 ⟨rfl,rfl⟩ rfl (by exact .inr ⟨by decide,rfl⟩))
   |true=>
    rw[hm]at mt
    rw[if_pos (by simp)]
    have w:=worst_any p.tols n.taints hp.tols hni.taints
    cases hw:worstB p.tols n.taints with
    |some x=>
     rw[hw]at w
     have w:Gives cfg 82 [.sl .sh (p.tols.map encL),.sl .sh (n.taints.map encT)] (.tuple [encT x,.bool true]):=w
     rw[if_pos (show(some x).isSome=true from rfl)]
     have m9:Pans cfg 80 [.bool false,.int .i64 9] (stopV 9):=must_no (by decide)
     exact let ζ1:List AV:=[.str n.name,.sl .sh (n.cap.map encA),.sl .sh (n.labels.map encP),.sl .sh (n.taints.map encT),.bool n.cordon];let ζ2:List AV:=[.sl .sh (p.tols.map encL),.sl .sh (n.taints.map encT)];let ζ3:List AV:=[.sl .sh (p.sel.map encM),.sl .sh (n.labels.map encP)];let ζ4:List AV:=[.sl .sh (s.nodes.map encN),.str nm];let ζ5:List AV:=[.str x.key,.str x.val,.bool x.hard];gG 160 [] trivial (.callK (ζ4) (.tuple [.agg ζ1,.bool true]) f<|.callI (show Gives cfg 80 [.bool true,.int .i64 3] (.tuple [])from must_ok _)<|.yes (show(!n.cordon)=true from by have hh:¬(n.cordon=true):=(by simp+zetaDelta [hc]);simp[hh])<|.callK (ζ3) (.bool true) mt<|.callI (show Gives cfg 80 [.bool true,.int .i64 8] (.tuple [])from must_ok _)<|.callK (ζ2) (.tuple [.agg ζ5,.bool true]) w<|.callP ([.bool !true,.int .i64 9]) ({boxes:=[[.sl .sh (s.nodes.map encN),.sl .sh (s.pods.map encPd),.sl .sh (s.buds.map encB)],[.str p.name,.str p.owner,.int .i64 p.prio,.sl .sh (p.need.map encA),.sl .sh (p.labels.map encP),.sl .sh (p.sel.map encM),.sl .sh (p.tols.map encL),.str p.key,.int .i64 p.most,.str p.node,.bool p.hold],[.str nm],ζ1,ζ5],toks:=[],loops:=[]:Heap}) m9 ⟨rfl,rfl⟩ rfl (by exact .inr ⟨by decide,rfl⟩))
    |none=>
     rw[hw]at w
     have w:Gives cfg 82 [.sl .sh (p.tols.map encL),.sl .sh (n.taints.map encT)] (.tuple [encT noT,.bool false]):=w
     rw[if_neg (by simp)]
     have m10:Pans cfg 80 [.bool false,.int .i64 10] (stopV 10):=must_no (by decide)
     have m7:Pans cfg 80 [.bool false,.int .i64 7] (stopV 7):=must_no (by decide)
     obtain⟨c,fr⟩:=free_any s nm hs
     have fi:=freeS_len s hs nm
     have ft:=fits_any p.need (freeS s nm).1 hp.need (by omega)
     generalize freeS s nm=u at fr ft fi⊢
     obtain⟨u,e⟩:=u
     have fr:Gives cfg 37 [encSt s,.str nm] (resW c u e):=fr
     have ft:Gives cfg 58 [.sl .sh (p.need.map encA),.sl .sh (u.map encA)] (.bool (fitsV p.need u)):=ft
     simp only
     generalize fitsV p.need u=b at ft⊢
     cases ok with
     |false=>
      rw[if_neg (by simp)]
      exact let ζ1:List AV:=[.str p.name,.str p.owner,.int .i64 p.prio,.sl .sh (p.need.map encA),.sl .sh (p.labels.map encP),.sl .sh (p.sel.map encM),.sl .sh (p.tols.map encL),.str p.key,.int .i64 p.most,.str p.node,.bool p.hold];let ζ2:List AV:=[.str n.name,.sl .sh (n.cap.map encA),.sl .sh (n.labels.map encP),.sl .sh (n.taints.map encT),.bool n.cordon];let ζ3:List AV:=[.sl .sh (s.nodes.map encN),.sl .sh (s.pods.map encPd),.sl .sh (s.buds.map encB)];let ζ4:List AV:=[.sl .sh (p.tols.map encL),.sl .sh (n.taints.map encT)];let ζ5:List AV:=[.sl .sh (p.sel.map encM),.sl .sh (n.labels.map encP)];let ζ6:List AV:=[.sl .sh (s.nodes.map encN),.str nm];let ζ7:List AV:=[.str [],.str [],.bool noT.hard];gG 200 [] trivial (.callK (ζ6) (.tuple [.agg ζ2,.bool true]) f<|.callI (show Gives cfg 80 [.bool true,.int .i64 3] (.tuple [])from must_ok _)<|.yes (show(!n.cordon)=true from by have hh:¬(n.cordon=true):=(by simp+zetaDelta [hc]);simp[hh])<|.callK (ζ5) (.bool true) mt<|.callI (show Gives cfg 80 [.bool true,.int .i64 8] (.tuple [])from must_ok _)<|.callK (ζ4) (.tuple [.agg ζ7,.bool false]) w<|.callK ([.bool !false,.int .i64 9]) (.tuple []) (show Gives cfg 80 [.bool true,.int .i64 9] (.tuple [])from must_ok _)<|.callI h83<|.ff<|.callP ([.bool false,.int .i64 10]) ({boxes:=[ζ3,ζ1,[.str nm],ζ2,ζ7],toks:=[],loops:=[]:Heap}) m10 ⟨rfl,rfl⟩ rfl (by exact .inr ⟨by decide,rfl⟩))
     |true=>
      by_cases hk:p.key=[]
      ·rw[if_pos (by simp[hk])]
       by_cases he:e=0
       ·cases b with
        |true=>
         rw[if_pos (by simp[he])]
         exact let ζ1:List AV:=[.str p.name,.str p.owner,.int .i64 p.prio,.sl .sh (p.need.map encA),.sl .sh (p.labels.map encP),.sl .sh (p.sel.map encM),.sl .sh (p.tols.map encL),.str p.key,.int .i64 p.most,.str p.node,.bool p.hold];let ζ2:List AV:=[.sl .sh (s.nodes.map encN),.sl .sh (s.pods.map encPd),.sl .sh (s.buds.map encB)];let ζ3:List AV:=[.str n.name,.sl .sh (n.cap.map encA),.sl .sh (n.labels.map encP),.sl .sh (n.taints.map encT),.bool n.cordon];let ζ4:List AV:=[.sl .sh (p.tols.map encL),.sl .sh (n.taints.map encT)];let ζ5:List AV:=[.sl .sh (p.sel.map encM),.sl .sh (n.labels.map encP)];let ζ6:List AV:=[.sl .sh (p.need.map encA),.sl .sh (u.map encA)];let ζ7:List AV:=[.sl .sh (s.nodes.map encN),.str nm];let ζ8:List AV:=[.str [],.str [],.bool noT.hard];gG 240 [] trivial (.callK (ζ7) (.tuple [.agg ζ3,.bool true]) f<|.callI (show Gives cfg 80 [.bool true,.int .i64 3] (.tuple [])from must_ok _)<|.yes (show(!n.cordon)=true from by have hh:¬(n.cordon=true):=(by simp+zetaDelta [hc]);simp[hh])<|.callK (ζ5) (.bool true) mt<|.callI (show Gives cfg 80 [.bool true,.int .i64 8] (.tuple [])from must_ok _)<|.callK (ζ4) (.tuple [.agg ζ8,.bool false]) w<|.callK ([.bool !false,.int .i64 9]) (.tuple []) (show Gives cfg 80 [.bool true,.int .i64 9] (.tuple [])from must_ok _)<|.callI h83<|.tt<|.yes (show(p.key==[])=true from(by simp+zetaDelta [hk]))<|.callI (show Gives cfg 80 [.bool true,.int .i64 10] (.tuple [])from must_ok _)<|.callG ([.agg ζ2,.str nm]) (.tuple [.sl .sh (u.map encA),.int .i64 e]) fr ⟨rfl,rfl⟩ Res.p<|.yes (show(e==(0:Int))=true from(by simp+zetaDelta [he]))<|.callK (ζ6) (.bool true) ft<|.callI (show Gives cfg 80 [.bool true,.int .i64 7] (.tuple [])from must_ok _)<|.fin ((.ret (.tuple []),{boxes:=[ζ2,ζ1,[.str nm],ζ3,ζ8],toks:=[],loops:=[]:Heap})) (by exact .inl ⟨rfl,rfl⟩))
        |false=>
         rw[if_neg (by simp)]
         exact let ζ1:List AV:=[.str p.name,.str p.owner,.int .i64 p.prio,.sl .sh (p.need.map encA),.sl .sh (p.labels.map encP),.sl .sh (p.sel.map encM),.sl .sh (p.tols.map encL),.str p.key,.int .i64 p.most,.str p.node,.bool p.hold];let ζ2:List AV:=[.sl .sh (s.nodes.map encN),.sl .sh (s.pods.map encPd),.sl .sh (s.buds.map encB)];let ζ3:List AV:=[.str n.name,.sl .sh (n.cap.map encA),.sl .sh (n.labels.map encP),.sl .sh (n.taints.map encT),.bool n.cordon];let ζ4:List AV:=[.sl .sh (p.tols.map encL),.sl .sh (n.taints.map encT)];let ζ5:List AV:=[.sl .sh (p.sel.map encM),.sl .sh (n.labels.map encP)];let ζ6:List AV:=[.sl .sh (p.need.map encA),.sl .sh (u.map encA)];let ζ7:List AV:=[.sl .sh (s.nodes.map encN),.str nm];let ζ8:List AV:=[.str [],.str [],.bool noT.hard];gG 240 [] trivial (.callK (ζ7) (.tuple [.agg ζ3,.bool true]) f<|.callI (show Gives cfg 80 [.bool true,.int .i64 3] (.tuple [])from must_ok _)<|.yes (show(!n.cordon)=true from by have hh:¬(n.cordon=true):=(by simp+zetaDelta [hc]);simp[hh])<|.callK (ζ5) (.bool true) mt<|.callI (show Gives cfg 80 [.bool true,.int .i64 8] (.tuple [])from must_ok _)<|.callK (ζ4) (.tuple [.agg ζ8,.bool false]) w<|.callK ([.bool !false,.int .i64 9]) (.tuple []) (show Gives cfg 80 [.bool true,.int .i64 9] (.tuple [])from must_ok _)<|.callI h83<|.tt<|.yes (show(p.key==[])=true from(by simp+zetaDelta [hk]))<|.callI (show Gives cfg 80 [.bool true,.int .i64 10] (.tuple [])from must_ok _)<|.callG ([.agg ζ2,.str nm]) (.tuple [.sl .sh (u.map encA),.int .i64 e]) fr ⟨rfl,rfl⟩ Res.p<|.yes (show(e==(0:Int))=true from(by simp+zetaDelta [he]))<|.callK (ζ6) (.bool false) ft<|.callP ([.bool false,.int .i64 7]) ({boxes:=[ζ2,ζ1,[.str nm],ζ3,ζ8],toks:=[],loops:=[]:Heap}) m7 ⟨rfl,rfl⟩ rfl (by exact .inr ⟨by decide,rfl⟩))
       ·rw[if_neg (by simp[he])]
        exact let ζ1:List AV:=[.str p.name,.str p.owner,.int .i64 p.prio,.sl .sh (p.need.map encA),.sl .sh (p.labels.map encP),.sl .sh (p.sel.map encM),.sl .sh (p.tols.map encL),.str p.key,.int .i64 p.most,.str p.node,.bool p.hold];let ζ2:List AV:=[.sl .sh (s.nodes.map encN),.sl .sh (s.pods.map encPd),.sl .sh (s.buds.map encB)];let ζ3:List AV:=[.str n.name,.sl .sh (n.cap.map encA),.sl .sh (n.labels.map encP),.sl .sh (n.taints.map encT),.bool n.cordon];let ζ4:List AV:=[.sl .sh (p.tols.map encL),.sl .sh (n.taints.map encT)];let ζ5:List AV:=[.sl .sh (p.sel.map encM),.sl .sh (n.labels.map encP)];let ζ6:List AV:=[.sl .sh (s.nodes.map encN),.str nm];let ζ7:List AV:=[.str [],.str [],.bool noT.hard];gG 240 [] trivial (.callK (ζ6) (.tuple [.agg ζ3,.bool true]) f<|.callI (show Gives cfg 80 [.bool true,.int .i64 3] (.tuple [])from must_ok _)<|.yes (show(!n.cordon)=true from by have hh:¬(n.cordon=true):=(by simp+zetaDelta [hc]);simp[hh])<|.callK (ζ5) (.bool true) mt<|.callI (show Gives cfg 80 [.bool true,.int .i64 8] (.tuple [])from must_ok _)<|.callK (ζ4) (.tuple [.agg ζ7,.bool false]) w<|.callK ([.bool !false,.int .i64 9]) (.tuple []) (show Gives cfg 80 [.bool true,.int .i64 9] (.tuple [])from must_ok _)<|.callI h83<|.tt<|.yes (show(p.key==[])=true from(by simp+zetaDelta [hk]))<|.callI (show Gives cfg 80 [.bool true,.int .i64 10] (.tuple [])from must_ok _)<|.callG ([.agg ζ2,.str nm]) (.tuple [.sl .sh (u.map encA),.int .i64 e]) fr ⟨rfl,rfl⟩ Res.p<|.no (show(e==(0:Int))=false from Bool.eq_false_iff.2 (by simp+zetaDelta [he]))<|.callP ([.bool false,.int .i64 7]) ({boxes:=[ζ2,ζ1,[.str nm],ζ3,ζ7],toks:=[],loops:=[]:Heap}) m7 ⟨rfl,rfl⟩ rfl (by exact .inr ⟨by decide,rfl⟩))
      ·by_cases hq:sk≤p.most
       ·have mq:Gives cfg 80 [.bool (decide (sk≤p.most)),.int .i64 10] (.tuple []):=by
         rw[show decide (sk≤p.most)=true by simpa using hq];exact must_ok 10
        rw[if_pos (by simp[hq])]
        by_cases he:e=0
        ·cases b with
         |true=>
          rw[if_pos (by simp[he])]
          exact let ζ1:List AV:=[.str p.name,.str p.owner,.int .i64 p.prio,.sl .sh (p.need.map encA),.sl .sh (p.labels.map encP),.sl .sh (p.sel.map encM),.sl .sh (p.tols.map encL),.str p.key,.int .i64 p.most,.str p.node,.bool p.hold];let ζ2:List AV:=[.sl .sh (s.nodes.map encN),.sl .sh (s.pods.map encPd),.sl .sh (s.buds.map encB)];let ζ3:List AV:=[.str n.name,.sl .sh (n.cap.map encA),.sl .sh (n.labels.map encP),.sl .sh (n.taints.map encT),.bool n.cordon];let ζ4:List AV:=[.sl .sh (p.tols.map encL),.sl .sh (n.taints.map encT)];let ζ5:List AV:=[.sl .sh (p.sel.map encM),.sl .sh (n.labels.map encP)];let ζ6:List AV:=[.sl .sh (p.need.map encA),.sl .sh (u.map encA)];let ζ7:List AV:=[.bool (decide (sk≤p.most)),.int .i64 10];let ζ8:List AV:=[.sl .sh (s.nodes.map encN),.str nm];let ζ9:List AV:=[.str [],.str [],.bool noT.hard];gG 240 [] trivial (.callK (ζ8) (.tuple [.agg ζ3,.bool true]) f<|.callI (show Gives cfg 80 [.bool true,.int .i64 3] (.tuple [])from must_ok _)<|.yes (show(!n.cordon)=true from by have hh:¬(n.cordon=true):=(by simp+zetaDelta [hc]);simp[hh])<|.callK (ζ5) (.bool true) mt<|.callI (show Gives cfg 80 [.bool true,.int .i64 8] (.tuple [])from must_ok _)<|.callK (ζ4) (.tuple [.agg ζ9,.bool false]) w<|.callK ([.bool !false,.int .i64 9]) (.tuple []) (show Gives cfg 80 [.bool true,.int .i64 9] (.tuple [])from must_ok _)<|.callI h83<|.tt<|.no (show(p.key==[])=false from Bool.eq_false_iff.2 (by simp+zetaDelta [hk]))<|.callK (ζ7) (.tuple []) mq<|.callG ([.agg ζ2,.str nm]) (.tuple [.sl .sh (u.map encA),.int .i64 e]) fr ⟨rfl,rfl⟩ Res.p<|.yes (show(e==(0:Int))=true from(by simp+zetaDelta [he]))<|.callK (ζ6) (.bool true) ft<|.callI (show Gives cfg 80 [.bool true,.int .i64 7] (.tuple [])from must_ok _)<|.fin ((.ret (.tuple []),{boxes:=[ζ2,ζ1,[.str nm],ζ3,ζ9],toks:=[],loops:=[]:Heap})) (by exact .inl ⟨rfl,rfl⟩))
         |false=>
          rw[if_neg (by simp)]
          exact let ζ1:List AV:=[.str p.name,.str p.owner,.int .i64 p.prio,.sl .sh (p.need.map encA),.sl .sh (p.labels.map encP),.sl .sh (p.sel.map encM),.sl .sh (p.tols.map encL),.str p.key,.int .i64 p.most,.str p.node,.bool p.hold];let ζ2:List AV:=[.sl .sh (s.nodes.map encN),.sl .sh (s.pods.map encPd),.sl .sh (s.buds.map encB)];let ζ3:List AV:=[.str n.name,.sl .sh (n.cap.map encA),.sl .sh (n.labels.map encP),.sl .sh (n.taints.map encT),.bool n.cordon];let ζ4:List AV:=[.sl .sh (p.tols.map encL),.sl .sh (n.taints.map encT)];let ζ5:List AV:=[.sl .sh (p.sel.map encM),.sl .sh (n.labels.map encP)];let ζ6:List AV:=[.sl .sh (p.need.map encA),.sl .sh (u.map encA)];let ζ7:List AV:=[.bool (decide (sk≤p.most)),.int .i64 10];let ζ8:List AV:=[.sl .sh (s.nodes.map encN),.str nm];let ζ9:List AV:=[.str [],.str [],.bool noT.hard];gG 240 [] trivial (.callK (ζ8) (.tuple [.agg ζ3,.bool true]) f<|.callI (show Gives cfg 80 [.bool true,.int .i64 3] (.tuple [])from must_ok _)<|.yes (show(!n.cordon)=true from by have hh:¬(n.cordon=true):=(by simp+zetaDelta [hc]);simp[hh])<|.callK (ζ5) (.bool true) mt<|.callI (show Gives cfg 80 [.bool true,.int .i64 8] (.tuple [])from must_ok _)<|.callK (ζ4) (.tuple [.agg ζ9,.bool false]) w<|.callK ([.bool !false,.int .i64 9]) (.tuple []) (show Gives cfg 80 [.bool true,.int .i64 9] (.tuple [])from must_ok _)<|.callI h83<|.tt<|.no (show(p.key==[])=false from Bool.eq_false_iff.2 (by simp+zetaDelta [hk]))<|.callK (ζ7) (.tuple []) mq<|.callG ([.agg ζ2,.str nm]) (.tuple [.sl .sh (u.map encA),.int .i64 e]) fr ⟨rfl,rfl⟩ Res.p<|.yes (show(e==(0:Int))=true from(by simp+zetaDelta [he]))<|.callK (ζ6) (.bool false) ft<|.callP ([.bool false,.int .i64 7]) ({boxes:=[ζ2,ζ1,[.str nm],ζ3,ζ9],toks:=[],loops:=[]:Heap}) m7 ⟨rfl,rfl⟩ rfl (by exact .inr ⟨by decide,rfl⟩))
        ·rw[if_neg (by simp[he])]
         exact let ζ1:List AV:=[.str p.name,.str p.owner,.int .i64 p.prio,.sl .sh (p.need.map encA),.sl .sh (p.labels.map encP),.sl .sh (p.sel.map encM),.sl .sh (p.tols.map encL),.str p.key,.int .i64 p.most,.str p.node,.bool p.hold];let ζ2:List AV:=[.sl .sh (s.nodes.map encN),.sl .sh (s.pods.map encPd),.sl .sh (s.buds.map encB)];let ζ3:List AV:=[.str n.name,.sl .sh (n.cap.map encA),.sl .sh (n.labels.map encP),.sl .sh (n.taints.map encT),.bool n.cordon];let ζ4:List AV:=[.sl .sh (p.tols.map encL),.sl .sh (n.taints.map encT)];let ζ5:List AV:=[.sl .sh (p.sel.map encM),.sl .sh (n.labels.map encP)];let ζ6:List AV:=[.bool (decide (sk≤p.most)),.int .i64 10];let ζ7:List AV:=[.sl .sh (s.nodes.map encN),.str nm];let ζ8:List AV:=[.str [],.str [],.bool noT.hard];gG 240 [] trivial (.callK (ζ7) (.tuple [.agg ζ3,.bool true]) f<|.callI (show Gives cfg 80 [.bool true,.int .i64 3] (.tuple [])from must_ok _)<|.yes (show(!n.cordon)=true from by have hh:¬(n.cordon=true):=(by simp+zetaDelta [hc]);simp[hh])<|.callK (ζ5) (.bool true) mt<|.callI (show Gives cfg 80 [.bool true,.int .i64 8] (.tuple [])from must_ok _)<|.callK (ζ4) (.tuple [.agg ζ8,.bool false]) w<|.callK ([.bool !false,.int .i64 9]) (.tuple []) (show Gives cfg 80 [.bool true,.int .i64 9] (.tuple [])from must_ok _)<|.callI h83<|.tt<|.no (show(p.key==[])=false from Bool.eq_false_iff.2 (by simp+zetaDelta [hk]))<|.callK (ζ6) (.tuple []) mq<|.callG ([.agg ζ2,.str nm]) (.tuple [.sl .sh (u.map encA),.int .i64 e]) fr ⟨rfl,rfl⟩ Res.p<|.no (show(e==(0:Int))=false from Bool.eq_false_iff.2 (by simp+zetaDelta [he]))<|.callP ([.bool false,.int .i64 7]) ({boxes:=[ζ2,ζ1,[.str nm],ζ3,ζ8],toks:=[],loops:=[]:Heap}) m7 ⟨rfl,rfl⟩ rfl (by exact .inr ⟨by decide,rfl⟩))
       ·have mq:Pans cfg 80 [.bool (decide (sk≤p.most)),.int .i64 10] (stopV 10):=by
         rw[show decide (sk≤p.most)=false by simpa using hq];exact m10
        rw[if_neg (by simp[hk,hq])]
        exact let ζ1:List AV:=[.str p.name,.str p.owner,.int .i64 p.prio,.sl .sh (p.need.map encA),.sl .sh (p.labels.map encP),.sl .sh (p.sel.map encM),.sl .sh (p.tols.map encL),.str p.key,.int .i64 p.most,.str p.node,.bool p.hold];let ζ2:List AV:=[.str n.name,.sl .sh (n.cap.map encA),.sl .sh (n.labels.map encP),.sl .sh (n.taints.map encT),.bool n.cordon];let ζ3:List AV:=[.sl .sh (s.nodes.map encN),.sl .sh (s.pods.map encPd),.sl .sh (s.buds.map encB)];let ζ4:List AV:=[.sl .sh (p.tols.map encL),.sl .sh (n.taints.map encT)];let ζ5:List AV:=[.sl .sh (p.sel.map encM),.sl .sh (n.labels.map encP)];let ζ6:List AV:=[.bool (decide (sk≤p.most)),.int .i64 10];let ζ7:List AV:=[.sl .sh (s.nodes.map encN),.str nm];let ζ8:List AV:=[.str [],.str [],.bool noT.hard];gG 240 [] trivial (.callK (ζ7) (.tuple [.agg ζ2,.bool true]) f<|.callI (show Gives cfg 80 [.bool true,.int .i64 3] (.tuple [])from must_ok _)<|.yes (show(!n.cordon)=true from by have hh:¬(n.cordon=true):=(by simp+zetaDelta [hc]);simp[hh])<|.callK (ζ5) (.bool true) mt<|.callI (show Gives cfg 80 [.bool true,.int .i64 8] (.tuple [])from must_ok _)<|.callK (ζ4) (.tuple [.agg ζ8,.bool false]) w<|.callK ([.bool !false,.int .i64 9]) (.tuple []) (show Gives cfg 80 [.bool true,.int .i64 9] (.tuple [])from must_ok _)<|.callI h83<|.tt<|.no (show(p.key==[])=false from Bool.eq_false_iff.2 (by simp+zetaDelta [hk]))<|.callP (ζ6) ({boxes:=[ζ3,ζ1,[.str nm],ζ2,ζ8],toks:=[],loops:=[]:Heap}) mq ⟨rfl,rfl⟩ rfl (by exact .inr ⟨by decide,rfl⟩))
theorem fit_gen(s:St)(hs:StIn s)(hn:∀n∈s.nodes,NdIn n)(p:Pod)(hp:PdIn p)(nm:List UInt8)(sk:Int)(ok:Bool)
 (h83:Gives cfg 83 [encSt (dropS s p.name),encPd p,.str nm] (.tuple [.int .i64 sk,.bool ok])):
 Gives cfg 21 [encSt s,encPd p,.str nm] (.int .i64 (fitG (dropS s p.name) p nm sk ok)):=by
 refine Gives.run (l21 _ _) ?_
 have dr:=drop_gives s p.name (by have:=hs.pods;omega)
 obtain⟨⟨a,H1⟩,hr,hR⟩:=fit_all (dropS s p.name) (drop_inF hs p.name) hn p hp nm sk ok h83
 generalize fitG (dropS s p.name) p nm sk ok=e at hR⊢
 generalize dropS s p.name=s2 at*
 have ht:lim cfg (.fn 77) [.func 78 [.ptr 0 0,.ptr 2 0,.ptr 1 0]] ⟨[(encSt s2).cells,(encPd p).cells,[.str nm]],[],[]⟩=some (.ret (.int .i64 e),H1):=by
  rw[lim_try rfl,l78,hr]
  rcases hR with⟨h0,h1⟩|⟨h0,h1⟩
  ·simp only at h1;subst h1;subst h0;rfl
  ·simp only at h1;subst h1;rfl
 have hd:=does_callE (xs:=[.func 78 [.ptr 0 0,.ptr 2 0,.ptr 1 0]]) (caps:=[]) ht rfl rfl
 generalize trunc _ _ _ H1=H2 at hd
 exact let ζ1:Heap:={boxes:=[[.sl .sh (s.nodes.map encN),.sl .sh (s.pods.map encPd),.sl .sh (s.buds.map encB)],[.str p.name,.str p.owner,.int .i64 p.prio,.sl .sh (p.need.map encA),.sl .sh (p.labels.map encP),.sl .sh (p.sel.map encM),.sl .sh (p.tols.map encL),.str p.key,.int .i64 p.most,.str p.node,.bool p.hold],[.str nm]],toks:=[],loops:=[]:Heap};gG 90 [] trivial (.effY (show Does cfg (.call (.c (.func 27 [])) [.c (encSt s),.c (.str p.name)]) ζ1 (encSt s2) ζ1 from gf27 dr _)<|.effY hd<|.fin ((.ret (.int .i64 e),H2)) rfl)
end Go.Aa.T
set_option linter.unusedVariables false
set_option linter.unusedSimpArgs false
set_option maxRecDepth 100000
namespace Go.Aa.T
open Go.Aa Go.Proofs
structure POk(v:List Amount):Prop where
 name:∀x∈v,isName x.name=true
 pos:∀x∈v,0<x.n
 rise:Rise (nms v)
theorem VOk.p{v:List Amount}(h:VOk v):POk v:=⟨h.name,h.pos,h.rise⟩
theorem POk.v{v:List Amount}(h:POk v)(hl:v.length≤8):VOk v:=⟨hl,h.name,h.pos,h.rise⟩
theorem vok_nil:VOk []:=⟨by simp,by simp,by simp,by simp[Rise]⟩
theorem rise_len{l m:List (List UInt8)}(hl:Rise l)(hm:Rise m)(h:∀x∈l,x∈m):l.length≤m.length:=by
 have e:l=m.filter fun x=>decide (x∈l):=rise_ext hl (hm.filter _) fun x=>by
  simp only[List.mem_filter,decide_eq_true_eq]
  exact⟨fun hx=>⟨h x hx,hx⟩,fun hx=>hx.2⟩
 rw[e];exact List.length_filter_le _ _
theorem names_congr{l m:List (List UInt8)}(h:∀x,x∈l↔x∈m):namesOf l=namesOf m:=
 namesOf_eq (namesOf_rise m) fun x=>(h x).trans namesOf_mem.symm
theorem names_sub{l m:List (List UInt8)}(h:∀x∈l,x∈m):(namesOf l).length≤(namesOf m).length:=
 rise_len (namesOf_rise l) (namesOf_rise m) fun x hx=>namesOf_mem.2 (h x (namesOf_mem.1 hx))
theorem pok_pos{v:List Amount}(h:POk v){s:List UInt8}:s∈nms v↔0<getQ v s:=by
 constructor
 ·intro hs
  obtain⟨x,hx,-,e⟩:=getQ_some hs
  rw[e];exact h.pos x hx
 ·intro hs
  by_cases hm:s∈nms v
  ·exact hm
  ·rw[getQ_none hm]at hs;omega
theorem pok_nn{v:List Amount}(h:POk v)(s:List UInt8):0≤getQ v s:=by
 by_cases hm:s∈nms v
 ·have:=(pok_pos h).1 hm;omega
 ·rw[getQ_none hm];omega
theorem getQ_mem:∀{v:List Amount},Rise (nms v)→∀x∈v,getQ v x.name=x.n
 |[],_,x,hx=>by cases hx
 |y::v,h,x,hx=>by
  rw[getQ_cons]
  rcases List.mem_cons.1 hx with rfl|hx
  ·rw[if_pos rfl]
  ·rw[if_neg,getQ_mem (List.Pairwise.of_cons h) x hx]
   intro e
   have:=List.rel_of_pairwise_cons h (List.mem_map.2 ⟨x,hx,rfl⟩)
   rw[e,bl_irrefl]at this
   cases this
def mk1(g:OfQ)(l:List (List UInt8)):List Amount:=(l.filter fun s=>decide (0<(g s).1)).map fun s=>⟨s,(g s).1⟩
theorem madeF_ok{g:OfQ}:∀{l:List (List UInt8)}(acc:List Amount),(∀s∈l,(g s).2=0)→madeF g l acc=(acc++mk1 g l,0)
 |[],acc,_=>by simp[madeF,mk1]
 |s::l,acc,h=>by
  unfold madeF
  rw[if_pos (h s (by simp)),madeF_ok _ fun t ht=>h t (by simp[ht])]
  by_cases hp:0<(g s).1<;>simp[mk1,hp]
theorem madeF_zero{g:OfQ}:∀{l:List (List UInt8)}{acc:List Amount},(madeF g l acc).2=0→∀s∈l,(g s).2=0
 |[],acc,_,s,hs=>by cases hs
 |t::l,acc,h,s,hs=>by
  unfold madeF at h
  split at h
  ·rename_i h0
   rcases List.mem_cons.1 hs with rfl|hs
   ·exact h0
   ·exact madeF_zero h s hs
  ·rename_i h0;exact absurd h h0
theorem nms_mk1(g:OfQ)(l:List (List UInt8)):nms (mk1 g l)=l.filter fun s=>decide (0<(g s).1):=by
 simp only[nms,mk1,List.map_map]
 conv=>rhs;rw[←List.map_id (l.filter _)]
 rfl
theorem mk1_ok{g:OfQ}{l:List (List UInt8)}(hr:Rise l)(hn:∀s∈l,isName s=true):POk (mk1 g l):=by
 refine⟨fun x hx=> ?_,fun x hx=> ?_,?_⟩
 ·obtain⟨s,hs,rfl⟩:=List.mem_map.1 hx
  exact hn s (List.mem_filter.1 hs).1
 ·obtain⟨s,hs,rfl⟩:=List.mem_map.1 hx
  simpa using(List.mem_filter.1 hs).2
 ·rw[nms_mk1];exact hr.filter _
theorem mk1_get{g:OfQ}{l:List (List UInt8)}(hr:Rise l)(hn:∀s∈l,isName s=true)(s:List UInt8)(h0:0≤(g s).1)(hx:s∉l→(g s).1=0):getQ (mk1 g l) s=(g s).1:=by
 by_cases hs:s∈nms (mk1 g l)
 ·obtain⟨x,hx,e1,e2⟩:=getQ_some hs
  obtain⟨t,ht,rfl⟩:=List.mem_map.1 hx
  rw[e2];simp only at e1⊢;rw[e1]
 ·rw[getQ_none hs]
  rw[nms_mk1]at hs
  by_cases hl:s∈l
  ·have:¬0<(g s).1:=fun h=>hs (List.mem_filter.2 ⟨hl,by simpa using h⟩)
   omega
  ·exact(hx hl).symm
theorem fin_ok{l:List Amount}(h:l.length≤8):finV (l,0)=(l,0):=by
 unfold finV;rw[if_pos rfl,if_neg (by simp only;omega)]
theorem made_two{g:OfQ}{a b:List Amount}(oa:VOk a)(ob:VOk b):madeV g [a,b]=finV (madeF g (namesOf (nms a++nms b)) []):=by
 have e:allNames [a,b]=nms a++nms b:=by simp[allNames]
 unfold madeV
 rw[if_pos (by simp[firstE,ckV_of oa,ckV_of ob]),e]
theorem two_name{a b:List Amount}(oa:VOk a)(ob:VOk b):∀s∈namesOf (nms a++nms b),isName s=true:=fun s hs=>by
 rcases List.mem_append.1 (namesOf_mem.1 hs)with h|h
 ·obtain⟨x,hx,rfl⟩:=List.mem_map.1 h;exact oa.name x hx
 ·obtain⟨x,hx,rfl⟩:=List.mem_map.1 h;exact ob.name x hx
theorem addQ_nn{a b:Int}(ha:0≤a)(hb:0≤b):addQ a b=toldQ (a+b):=by
 unfold addQ bothE;rw[if_neg (show¬a<0 by omega),if_neg (show¬b<0 by omega),if_neg (by simp)]
theorem told_ok{n:Int}(h:n≤9223372036854775807):toldQ n=(n,0):=by unfold toldQ;rw[if_neg (by omega)]
theorem told_zero{n:Int}(h:(toldQ n).2=0):n≤9223372036854775807:=by
 unfold toldQ at h;split at h
 ·cases h
 ·omega
theorem add_nms{a b:List Amount}(oa:VOk a)(ob:VOk b)(hs:∀s,getQ a s+getQ b s≤9223372036854775807):
 (namesOf (nms a++nms b)).filter (fun s=>decide (0<(addQ (getQ a s) (getQ b s)).1))=namesOf (nms a++nms b):=by
 refine List.filter_eq_self.2 fun s hx=> ?_
 have pa:=pok_nn oa.p s
 have pb:=pok_nn ob.p s
 rw[addQ_nn pa pb,told_ok (hs s)]
 have:0<getQ a s+getQ b s:=by
  rcases List.mem_append.1 (namesOf_mem.1 hx)with h|h
  ·have:=(pok_pos oa.p).1 h;omega
  ·have:=(pok_pos ob.p).1 h;omega
 simpa using this
theorem add_ok{a b:List Amount}(oa:VOk a)(ob:VOk b)(hs:∀s,getQ a s+getQ b s≤9223372036854775807)(hl:(namesOf (nms a++nms b)).length≤8):
 ∃r,addV a b=(r,0)∧VOk r∧(∀s,getQ r s=getQ a s+getQ b s)∧nms r=namesOf (nms a++nms b):=by
 have pa:=pok_nn oa.p
 have pb:=pok_nn ob.p
 have hr:=namesOf_rise (nms a++nms b)
 have hn:=two_name oa ob
 have hg:∀s,addQ (getQ a s) (getQ b s)=(getQ a s+getQ b s,0):=fun s=>by rw[addQ_nn (pa s) (pb s),told_ok (hs s)]
 have e2:=nms_mk1 (fun s=>addQ (getQ a s) (getQ b s)) (namesOf (nms a++nms b))
 rw[add_nms oa ob hs]at e2
 have e3:(mk1 (fun s=>addQ (getQ a s) (getQ b s)) (namesOf (nms a++nms b))).length≤8:=by rw[←e2]at hl;simpa using hl
 refine⟨mk1 (fun s=>addQ (getQ a s) (getQ b s)) (namesOf (nms a++nms b)),?_,(mk1_ok hr hn).v e3,fun s=> ?_,e2⟩
 ·unfold addV
  rw[made_two oa ob,madeF_ok _ fun s _=>by simp only[hg],List.nil_append,fin_ok e3]
 ·rw[mk1_get hr hn s (by simp only[hg];have:=pa s;have:=pb s;omega),hg]
  intro hx
  simp only[hg]
  rw[getQ_none fun h=>hx (namesOf_mem.2 (List.mem_append.2 (.inl h))),getQ_none fun h=>hx (namesOf_mem.2 (List.mem_append.2 (.inr h)))]
  rfl
theorem add_zero{a b:List Amount}(oa:VOk a)(ob:VOk b)(h:(addV a b).2=0):(∀s,getQ a s+getQ b s≤9223372036854775807)∧(namesOf (nms a++nms b)).length≤8:=by
 have pa:=pok_nn oa.p
 have pb:=pok_nn ob.p
 unfold addV at h
 rw[made_two oa ob]at h
 have h0:(madeF (fun s=>addQ (getQ a s) (getQ b s)) (namesOf (nms a++nms b)) []).2=0:=by
  unfold finV at h;split at h
  ·rename_i h0;exact h0
  ·exact h
 have h1:=madeF_zero h0
 have hs:∀s,getQ a s+getQ b s≤9223372036854775807:=fun s=>by
  by_cases hm:s∈nms a++nms b
  ·have:=h1 s (namesOf_mem.2 hm)
   simp only[addQ_nn (pa s) (pb s)]at this
   exact told_zero this
  ·rw[getQ_none fun h=>hm (List.mem_append.2 (.inl h)),getQ_none fun h=>hm (List.mem_append.2 (.inr h))];omega
 refine⟨hs,?_⟩
 rw[madeF_ok _ h1,List.nil_append]at h
 have e2:=nms_mk1 (fun s=>addQ (getQ a s) (getQ b s)) (namesOf (nms a++nms b))
 rw[add_nms oa ob hs]at e2
 rw[←e2,List.length_map]
 unfold finV at h
 rw[if_pos rfl]at h
 split at h
 ·cases h
 ·rename_i h3;exact Nat.le_of_not_lt h3
def totQ:List (List Amount)→List UInt8→Int
 |[],_=>0
 |v::vs,s=>getQ v s+totQ vs s
theorem totQ_app(a b:List (List Amount))(s:List UInt8):totQ (a++b) s=totQ a s+totQ b s:=by
 induction a with
 |nil=>simp[totQ]
 |cons v a ih=>simp only[List.cons_append,totQ,ih];omega
theorem totQ_nn{vs:List (List Amount)}(h:∀v∈vs,VOk v)(s:List UInt8):0≤totQ vs s:=by
 induction vs with
 |nil=>simp[totQ]
 |cons v vs ih=>
  have:=pok_nn (h v (by simp)).p s
  have:=ih fun w hw=>h w (by simp[hw])
  simp only[totQ];omega
structure SumOk(acc:List Amount)(vs:List (List Amount)):Prop where
 le:∀s,getQ acc s+totQ vs s≤9223372036854775807
 few:(namesOf (nms acc++allNames vs)).length≤8
theorem SumOk.head{acc v:List Amount}{vs:List (List Amount)}(h:SumOk acc (v::vs))(hv:∀v∈vs,VOk v):(∀s,getQ acc s+getQ v s≤9223372036854775807)∧(namesOf (nms acc++nms v)).length≤8:=by
 refine⟨fun s=> ?_,?_⟩
 ·have:=h.le s
  have:=totQ_nn hv s
  simp only[totQ]at*;omega
 ·refine Nat.le_trans (names_sub fun x hx=> ?_) h.few
  rw[allNames_cons]
  simp only[List.mem_append]at hx⊢
  rcases hx with h|h
  ·exact .inl h
  ·exact .inr (.inl h)
theorem sum_mem{acc v r:List Amount}{vs:List (List Amount)}(e:nms r=namesOf (nms acc++nms v)):namesOf (nms r++allNames vs)=namesOf (nms acc++allNames (v::vs)):=
 names_congr fun x=>by rw[e,allNames_cons];simp only[List.mem_append,namesOf_mem,or_assoc]
theorem sum_ok:∀{vs:List (List Amount)}{acc:List Amount},VOk acc→(∀v∈vs,VOk v)→SumOk acc vs→∃r,sumG acc vs=(r,0)∧VOk r∧(∀s,getQ r s=getQ acc s+totQ vs s)∧nms r=namesOf (nms acc++allNames vs)
 |[],acc,oa,_,h=>⟨acc,rfl,oa,fun s=>by simp[totQ],by
    have:allNames []=[]:=rfl
    rw[this,List.append_nil]
    exact(namesOf_eq oa.rise fun x=>Iff.rfl).symm⟩
 |v::vs,acc,oa,ov,h=>by
  have ov':∀w∈vs,VOk w:=fun w hw=>ov w (by simp[hw])
  obtain⟨h1,h2⟩:=h.head ov'
  obtain⟨r,e,or,hr,hm⟩:=add_ok oa (ov v (by simp)) h1 h2
  obtain⟨r',e',or',hr',hm'⟩:=sum_ok or ov' ⟨fun s=>by have:=h.le s;simp only[totQ]at this;rw[hr];omega,by rw[sum_mem hm];exact h.few⟩
  refine⟨r',?_,or',fun s=> ?_,by rw[hm',sum_mem hm]⟩
  ·unfold sumG;rw[e,if_pos rfl];exact e'
  ·rw[hr',hr];simp only[totQ];omega
theorem names_self{v:List Amount}(h:VOk v):namesOf (nms v)=nms v:=namesOf_eq h.rise fun x=>Iff.rfl
theorem sum_zero:∀{vs:List (List Amount)}{acc:List Amount},VOk acc→(∀s,getQ acc s≤9223372036854775807)→(∀v∈vs,VOk v)→(sumG acc vs).2=0→SumOk acc vs
 |[],acc,oa,hb,_,h=>⟨fun s=>by have:=hb s;simp only[totQ];omega,by
    have:allNames []=[]:=rfl
    rw[this,List.append_nil,names_self oa,List.length_map];exact oa.len⟩
 |v::vs,acc,oa,hb,ov,h=>by
  have ov':∀w∈vs,VOk w:=fun w hw=>ov w (by simp[hw])
  unfold sumG at h
  split at h
  ·rename_i h0
   obtain⟨h1,h2⟩:=add_zero oa (ov v (by simp)) h0
   obtain⟨r,e,or,hr,hm⟩:=add_ok oa (ov v (by simp)) h1 h2
   rw[e]at h
   have ih:=sum_zero or (fun s=>by rw[hr];exact h1 s) ov' h
   exact⟨fun s=>by have:=ih.le s;rw[hr]at this;simp only[totQ];omega,by rw[←sum_mem hm];exact ih.few⟩
  ·rename_i h0;exact absurd h h0
theorem sum0{vs:List (List Amount)}(ov:∀v∈vs,VOk v):(sumG [] vs).2=0↔SumOk [] vs:=
 ⟨sum_zero vok_nil (fun s=>by show(0:Int)≤_;omega) ov,fun h=>by obtain⟨r,e,-⟩:=sum_ok vok_nil ov h;rw[e]⟩
theorem fits_get{a b:List Amount}(oa:POk a)(ob:POk b):fitsV a b=true↔∀s,getQ a s≤getQ b s:=by
 unfold fitsV
 simp only[List.all_eq_true,decide_eq_true_eq]
 constructor
 ·intro h s
  by_cases hm:s∈nms a
  ·obtain⟨x,hx,rfl,e⟩:=getQ_some hm
   rw[e];exact h x hx
  ·rw[getQ_none hm];exact pok_nn ob s
 ·intro h x hx
  rw[←getQ_mem oa.rise x hx];exact h _
theorem sub_ok{a b:List Amount}(oa:VOk a)(ob:VOk b)(h:∀s,getQ b s≤getQ a s):
 ∃r,subV a b=(r,0)∧VOk r∧(∀s,getQ r s=getQ a s-getQ b s):=by
 have pa:=pok_nn oa.p
 have pb:=pok_nn ob.p
 have hr:=namesOf_rise (nms a++nms b)
 have hn:=two_name oa ob
 have hg:∀s,subQ (getQ a s) (getQ b s)=(getQ a s-getQ b s,0):=fun s=>by
  have:=pa s;have:=pb s;have:=h s
  unfold subQ bothE;rw[if_neg (show¬getQ a s<0 by omega),if_neg (show¬getQ b s<0 by omega),if_neg (by simp),if_neg (by omega)]
 have hp:=mk1_ok (g:=fun s=>subQ (getQ a s) (getQ b s)) hr hn
 have e2:=nms_mk1 (fun s=>subQ (getQ a s) (getQ b s)) (namesOf (nms a++nms b))
 have e3:(mk1 (fun s=>subQ (getQ a s) (getQ b s)) (namesOf (nms a++nms b))).length≤8:=by
  have hl:(nms (mk1 (fun s=>subQ (getQ a s) (getQ b s)) (namesOf (nms a++nms b)))).length≤(nms a).length:=rise_len hp.rise oa.rise fun x hx=>by
   rw[e2]at hx
   have:=(List.mem_filter.1 hx).2
   simp only[hg,decide_eq_true_eq]at this
   have:=pb x
   exact(pok_pos oa.p).2 (by omega)
  have:=oa.len
  simp only[List.length_map]at hl;omega
 refine⟨_,?_,hp.v e3,fun s=> ?_⟩
 ·unfold subV
  rw[made_two oa ob,madeF_ok _ fun s _=>by simp only[hg],List.nil_append,fin_ok e3]
 ·rw[mk1_get hr hn s (by simp only[hg];have:=h s;omega),hg]
  intro hx
  simp only[hg]
  rw[getQ_none fun h=>hx (namesOf_mem.2 (List.mem_append.2 (.inl h))),getQ_none fun h=>hx (namesOf_mem.2 (List.mem_append.2 (.inr h)))]
  rfl
end Go.Aa.T
set_option linter.unusedVariables false
set_option linter.unusedSimpArgs false
set_option maxRecDepth 100000
namespace Go.Aa.T
open Go.Aa Go.Proofs
end Go.Aa.T
set_option linter.unusedVariables false
set_option linter.unusedSimpArgs false
set_option maxRecDepth 100000
namespace Go.Aa.T
open Go.Aa Go.Proofs
end Go.Aa.T
set_option linter.unusedVariables false
set_option linter.unusedSimpArgs false
set_option maxRecDepth 100000
namespace Go.Aa.T
open Go.Aa Go.Proofs
end Go.Aa.T
set_option linter.unusedVariables false
set_option linter.unusedSimpArgs false
set_option maxRecDepth 100000
namespace Go.Aa.T
open Go.Aa Go.Proofs
theorem find_uniq{X:Type}{most:Nat}{ck:X→Int}{nm:X→List UInt8}{s:List X}(h:ckAll most ck nm s=0){x:X}(hx:x∈s):findG nm s (nm x)=some x:=by
 obtain⟨y,hy⟩:∃y,findG nm s (nm x)=some y:=by
  cases e:findG nm s (nm x)with
  |some y=>exact⟨y,rfl⟩
  |none=>exact absurd (List.find?_eq_none.1 e x hx) (by simp)
 rw[hy]
 have hn:nm y=nm x:=by simpa using List.find?_some hy
 obtain⟨i,hi,ei⟩:=List.getElem_of_mem hx
 obtain⟨j,hj,ej⟩:=List.getElem_of_mem (List.mem_of_find?_eq_some hy)
 have ei':s[i]?=some x:=by rw[List.getElem?_eq_getElem hi,ei]
 have ej':s[j]?=some y:=by rw[List.getElem?_eq_getElem hj,ej]
 rcases Nat.lt_trichotomy i j with h1|h1|h1
 ·have:=names_ltX h (j-i-1) i x y ei' (by rw[show i+(j-i-1)+1=j by omega];exact ej')
  rw[hn,bl_irrefl]at this;cases this
 ·subst h1;rw[ei']at ej';exact ej'.symm
 ·have:=names_ltX h (i-j-1) j y x ej' (by rw[show j+(i-j-1)+1=i by omega];exact ei')
  rw[hn,bl_irrefl]at this;cases this
structure GdS(s:St):Prop where
 cap:∀n∈s.nodes,VOk n.cap
 need:∀p∈s.pods,VOk p.need
 name:∀n∈s.nodes,n.name≠[]
 find:∀n∈s.nodes,findG Node.name s.nodes n.name=some n
 pods:srtP s.pods
 room:∀n∈s.nodes,(usedS s n.name).2=0∧fitsV (usedS s n.name).1 n.cap=true
 total:(totalS s).2=0
theorem roomE_zero{s:St}:∀{l:List Node},roomE s l=0→∀n∈l,(usedS s n.name).2=0∧fitsV (usedS s n.name).1 n.cap=true
 |[],_,n,hn=>by cases hn
 |m::l,h,n,hn=>by
  unfold roomE at h
  split at h
  ·rename_i h0
   split at h
   ·rename_i h1
    rcases List.mem_cons.1 hn with rfl|hn
    ·exact⟨h0,h1⟩
    ·exact roomE_zero h n hn
   ·cases h
  ·rename_i h0;exact absurd h h0
theorem gdS{s:St}(h:ckSt s=0):GdS s:=by
 have h1:ckAll 32 ckN Node.name s.nodes=0:=firstE_zero h _ (by simp)
 have h2:ckAll 128 ckPd Pod.name s.pods=0:=firstE_zero h _ (by simp)
 exact⟨fun n hn=>vOk (firstE_zero ((ckAll_mem h1).2 n hn) _ (by simp)),fun p hp=>vOk (firstE_zero ((ckAll_mem h2).2 p hp) _ (by simp)),fun n hn=>ckN_name ((ckAll_mem h1).2 n hn),
  fun n hn=>find_uniq h1 hn,ck_srt h,roomE_zero (firstE_zero h _ (by simp)),firstE_zero h _ (by simp)⟩
def ndS(s:St)(nd:List UInt8):List (List Amount):=(onS s nd).map (·.need)
theorem GdS.nd{s:St}(g:GdS s)(nd:List UInt8):∀v∈ndS s nd,VOk v:=fun v hv=>by
 obtain⟨p,hp,rfl⟩:=List.mem_map.1 hv
 exact g.need p (List.mem_filter.1 hp).1
theorem used_at{s:St}{nd:List UInt8}{n:Node}(h:findG Node.name s.nodes nd=some n):usedS s nd=sumG [] (ndS s nd):=by unfold usedS;rw[h];rfl
theorem free_at{s:St}{nd:List UInt8}{n:Node}(h:findG Node.name s.nodes nd=some n)(h0:(usedS s nd).2=0):freeS s nd=subV n.cap (usedS s nd).1:=by
 unfold freeS freeG capOf;rw[if_pos h0,h]
theorem GdS.at_{s:St}(g:GdS s){n:Node}(hn:n∈s.nodes):∃u,usedS s n.name=(u,0)∧VOk u∧(∀z,getQ u z=totQ (ndS s n.name) z)∧nms u=namesOf (allNames (ndS s n.name))∧fitsV u n.cap=true:=by
 have hf:=g.find n hn
 obtain⟨h0,h1⟩:=g.room n hn
 rw[used_at hf]at h0 h1⊢
 obtain⟨u,e,ou,hu,hm⟩:=sum_ok vok_nil (g.nd _) ((sum0 (g.nd _)).1 h0)
 refine⟨u,e,ou,fun z=> ?_,hm,?_⟩
 ·rw[hu];show 0+_=_;omega
 ·rw[e]at h1;exact h1
theorem tot_mid(A B:List (List Amount))(v:List Amount)(z:List UInt8):totQ (A++v::B) z=totQ (A++B) z+getQ v z:=by
 simp only[totQ_app,totQ];omega
theorem tot_sub{A B:List (List Amount)}(h:A.Sublist B)(hv:∀v∈B,VOk v)(z:List UInt8):totQ A z≤totQ B z:=by
 induction h with
 |slnil=>exact Int.le_refl _
 |cons v h ih=>
  have:=ih fun w hw=>hv w (by simp[hw])
  have:=pok_nn (hv v (by simp)).p z
  simp only[totQ];omega
 |cons_cons v h ih=>
  have:=ih fun w hw=>hv w (by simp[hw])
  simp only[totQ];omega
theorem drop_nd(s:St)(nm nd:List UInt8):(ndS (dropS s nm) nd).Sublist (ndS s nd):=
 (((List.filter_sublist (l:=s.pods)).filter _).map _)
theorem less_used{s:St}(g:GdS s)(nm:List UInt8){n:Node}(hn:n∈s.nodes):∃u,usedS (dropS s nm) n.name=(u,0)∧VOk u∧(∀z,getQ u z=totQ (ndS (dropS s nm) n.name) z)∧fitsV u n.cap=true:=by
 obtain⟨u,e,ou,hu,hm,hf⟩:=g.at_ hn
 have oc:=g.cap n hn
 have hle:=(fits_get ou.p oc.p).1 hf
 have hsub:=drop_nd s nm n.name
 have ov:∀v∈ndS (dropS s nm) n.name,VOk v:=fun v hv=>g.nd n.name v (hsub.subset hv)
 have hk:=(sum0 (g.nd n.name)).1 (by rw[←used_at (g.find n hn),e])
 have hk2:SumOk [] (ndS (dropS s nm) n.name):=⟨fun z=>by have:=hk.le z;have:=tot_sub hsub (g.nd n.name) z;omega,
  Nat.le_trans (names_sub fun x hx=>by
   simp only[List.map_nil,List.nil_append,allNames,List.mem_flatMap]at hx⊢
   obtain⟨v,hv,hx⟩:=hx
   exact⟨v,hsub.subset hv,hx⟩) hk.few⟩
 obtain⟨u2,e2,ou2,hu2,-⟩:=sum_ok vok_nil ov hk2
 have e0:∀z,getQ [] z=0:=fun z=>rfl
 have hu3:∀z,getQ u2 z=totQ (ndS (dropS s nm) n.name) z:=fun z=>by rw[hu2,e0];omega
 have hfd:findG Node.name (dropS s nm).nodes n.name=some n:=g.find n hn
 refine⟨u2,by rw[used_at hfd];exact e2,ou2,hu3,(fits_get ou2.p oc.p).2 fun z=> ?_⟩
 have:=hle z;have:=tot_sub hsub (g.nd n.name) z
 rw[hu3];rw[hu]at*;omega
end Go.Aa.T
set_option linter.unusedVariables false
set_option linter.unusedSimpArgs false
set_option maxRecDepth 100000
namespace Go.Aa.T
open Go.Aa Go.Proofs
def fitNs(F:List UInt8→Int)(l:List Node):List (List UInt8):=(l.filter fun n=>F n.name==0).map Node.name
theorem nodes_loop(s:St)(p:Pod)(F:List UInt8→Int)(hF:∀n∈s.nodes,Gives cfg 21 [encSt s,encPd p,.str n.name] (.int .i64 (F n.name)))(hl:s.nodes.length≤1000):
 ∀(post:List Node)(i:Nat)(hd:s.nodes.drop i=post)(acc:List (List UInt8))(ha:acc.length≤i)(ex:List (List AV))(T:Env)
 (hT:Has T [(2,.ptr 0 0),(3,.ptr 1 0),(5,rowF .str acc),(9,.sl .sh (s.nodes.map encN)),(10,.int .i64 s.nodes.length),(11,.int .i64 i)]),
 Goes cfg a24 k24_0 T ⟨(encSt s).cells::(encPd p).cells::ex,tkR .str acc,[]⟩ (IsRet (rowF .str (acc++fitNs F post))):=by
 intro post
 induction post with
 |nil=>
  intro i hd acc ha ex T hT
  have hge:=drop_ge hd
  rw[show acc++fitNs F []=acc by simp[fitNs]]
  exact gG 60 _ hT (.no (dF ((↑i:Int)<(↑s.nodes.length:Int)))<|.fin ((.ret (.sl (skF acc) (List.map .str acc)),{boxes:=[.sl .sh (s.nodes.map encN),.sl .sh (s.pods.map encPd),.sl .sh (s.buds.map encB)]::[.str p.name,.str p.owner,.int .i64 p.prio,.sl .sh (p.need.map encA),.sl .sh (p.labels.map encP),.sl .sh (p.sel.map encM),.sl .sh (p.tols.map encL),.str p.key,.int .i64 p.most,.str p.node,.bool p.hold]::ex,toks:=tkR .str acc,loops:=[]:Heap})) rfl)
 |cons x post ih=>
  intro i hd acc ha ex T hT
  have hlt:=drop_lt hd
  have hnx:=drop_next hd
  have hf:=hF x (drop_mem hd)
  by_cases hq:F x.name=0
  ·have e:acc++fitNs F (x::post)=(acc++[x.name])++fitNs F post:=by simp[fitNs,List.filter_cons,hq]
   rw[e]
   rw[hq]at hf
   have ih':=ih (i+1) hnx (acc++[x.name]) (by simp;omega) (ex++[(encN x).cells])
   have ap:∀bs ls,appendA 1 16 ⟨bs,tkR .str acc,ls⟩ (rowF .str acc) (.sl .full [.str x.name])=some (rowF .str (acc++[x.name]),⟨bs,tkR .str (acc++[x.name]),ls⟩):=fun bs ls=>
    row_append_T AV.str (x:=x.name) (by simp;omega) (lenOk_map fun _=>rfl) rfl rfl
   exact let ζ1:List AV:=[.str p.name,.str p.owner,.int .i64 p.prio,.sl .sh (p.need.map encA),.sl .sh (p.labels.map encP),.sl .sh (p.sel.map encM),.sl .sh (p.tols.map encL),.str p.key,.int .i64 p.most,.str p.node,.bool p.hold];let ζ2:List AV:=[.str x.name,.sl .sh (x.cap.map encA),.sl .sh (x.labels.map encP),.sl .sh (x.taints.map encT),.bool x.cordon];let ζ3:List AV:=[.sl .sh (s.nodes.map encN),.sl .sh (s.pods.map encPd),.sl .sh (s.buds.map encB)];let ζ4:Heap:={boxes:=ζ3::ζ1::(ex++[ζ2]),toks:=tkR .str acc,loops:=[]:Heap};let ζ5:Heap:={boxes:=ζ3::ζ1::(ex++[ζ2]),toks:=tkR .str (acc++[x.name]),loops:=[]:Heap};let ζ6:List AV:=[.str [],.sl .full [],.sl .full [],.sl .full [],.bool false];gG 120 _ hT (.yes (dT ((↑i:Int)<(↑s.nodes.length:Int)))<|.idx (iR 5 encN hd)<|.load (rfl:loadA true 5 {boxes:=ζ3::ζ1::ex,toks:=tkR .str acc,loops:=[]:Heap} (.ref ζ2)=some (.agg ζ2))<|.store (show storeA 5 {boxes:=ζ3::ζ1::(ex++[ζ6]),toks:=tkR .str acc,loops:=[]:Heap} (.ptr (ζ3::ζ1::ex).length 0) (.agg ζ2)=some (ζ4)from store_box2 (cs:=ζ6) (cs':=ζ2) (by simp+zetaDelta) rfl (by simp+zetaDelta [List.set_append]))<|.load (lB true 3 ζ4 0 0 (.agg ζ3) ζ3)<|.load (lB true 11 ζ4 1 0 (.agg ζ1) ζ1)<|.load (show loadA false 1 ζ4 (.ptr (ζ3::ζ1::ex).length 0)=some (.str x.name)from load_box (cs:=ζ2) (by simp+zetaDelta) rfl)<|.callI hf<|.tt<|.load (show loadA false 1 ζ4 (.ptr (ζ3::ζ1::ex).length 0)=some (.str x.name)from load_box (cs:=ζ2) (by simp+zetaDelta) rfl)<|.append (show appendA 1 16 ζ4 (.sl (skF acc) (List.map .str acc)) (.sl .full [.str x.name])=some ((rowF .str (acc++[x.name]),ζ5))from ap _ _)<|.bin (iI i)<|.cutQ k24_0 [(2,.ptr 0 0),(3,.ptr 1 0),(5,.sl (skF (acc++[x.name])) (List.map .str (acc++[x.name]))),(9,.sl .sh (s.nodes.map encN)),(10,.int .i64 (↑s.nodes.length)),(11,.int .i64 (↑(i+1)))] (ζ5) (fun T hT=>(ih' T hT)))
  ·have e:acc++fitNs F (x::post)=acc++fitNs F post:=by simp[fitNs,List.filter_cons,hq]
   rw[e]
   have ih':=ih (i+1) hnx acc (by omega) (ex++[(encN x).cells])
   generalize F x.name=c at hf hq
   exact let ζ1:List AV:=[.str p.name,.str p.owner,.int .i64 p.prio,.sl .sh (p.need.map encA),.sl .sh (p.labels.map encP),.sl .sh (p.sel.map encM),.sl .sh (p.tols.map encL),.str p.key,.int .i64 p.most,.str p.node,.bool p.hold];let ζ3:List AV:=[.sl .sh (s.nodes.map encN),.sl .sh (s.pods.map encPd),.sl .sh (s.buds.map encB)];let ζ4:List AV:=[.str x.name,.sl .sh (x.cap.map encA),.sl .sh (x.labels.map encP),.sl .sh (x.taints.map encT),.bool x.cordon];let ζ2:Heap:={boxes:=ζ3::ζ1::(ex++[ζ4]),toks:=tkR .str acc,loops:=[]:Heap};let ζ5:List AV:=[.str [],.sl .full [],.sl .full [],.sl .full [],.bool false];gG 120 _ hT (.yes (dT ((↑i:Int)<(↑s.nodes.length:Int)))<|.idx (iR 5 encN hd)<|.load (rfl:loadA true 5 {boxes:=ζ3::ζ1::ex,toks:=tkR .str acc,loops:=[]:Heap} (.ref ζ4)=some (.agg ζ4))<|.store (show storeA 5 {boxes:=ζ3::ζ1::(ex++[ζ5]),toks:=tkR .str acc,loops:=[]:Heap} (.ptr (ζ3::ζ1::ex).length 0) (.agg ζ4)=some (ζ2)from store_box2 (cs:=ζ5) (cs':=ζ4) (by simp+zetaDelta) rfl (by simp+zetaDelta [List.set_append]))<|.load (lB true 3 ζ2 0 0 (.agg ζ3) ζ3)<|.load (lB true 11 ζ2 1 0 (.agg ζ1) ζ1)<|.load (show loadA false 1 ζ2 (.ptr (ζ3::ζ1::ex).length 0)=some (.str x.name)from load_box (cs:=ζ4) (by simp+zetaDelta) rfl)<|.callI hf<|.no (show(c==(0:Int))=false from Bool.eq_false_iff.2 (by simpa using hq))<|.bin (iI i)<|.cutQ k24_0 [(2,.ptr 0 0),(3,.ptr 1 0),(5,.sl (skF acc) (List.map .str acc)),(9,.sl .sh (s.nodes.map encN)),(10,.int .i64 (↑s.nodes.length)),(11,.int .i64 (↑(i+1)))] (ζ2) (fun T hT=>(ih' T hT)))
theorem nodes_any(s:St)(p:Pod)(F:List UInt8→Int)(hF:∀n∈s.nodes,Gives cfg 21 [encSt s,encPd p,.str n.name] (.int .i64 (F n.name)))(hl:s.nodes.length≤1000):
 Gives cfg 24 [encSt s,encPd p] (rowF .str (fitNs F s.nodes)):=by
 refine Gives.run (l24 _ _) ?_
 have h:=nodes_loop s p F hF hl s.nodes 0 rfl [] (by simp) []
 have e:rowF AV.str ([]:List (List UInt8))=.sl .full []:=rfl
 rw[e,tk_nil,List.nil_append]at h
 exact gG 60 [] trivial (.len (lM .sh encN s.nodes)<|.cutQ k24_0 [(2,.ptr 0 0),(3,.ptr 1 0),(5,.sl .full []),(9,.sl .sh (s.nodes.map encN)),(10,.int .i64 (↑s.nodes.length)),(11,.int .i64 0)] ({boxes:=[[.sl .sh (s.nodes.map encN),.sl .sh (s.pods.map encPd),.sl .sh (s.buds.map encB)],[.str p.name,.str p.owner,.int .i64 p.prio,.sl .sh (p.need.map encA),.sl .sh (p.labels.map encP),.sl .sh (p.sel.map encM),.sl .sh (p.tols.map encL),.str p.key,.int .i64 p.most,.str p.node,.bool p.hold]],toks:=[],loops:=[]:Heap}) (fun T hT=>(h T hT)))
theorem drop_drop(s:St)(a b:List UInt8):dropS (dropS s a) b=dropS (dropS s b) a:=by
 unfold dropS offP
 simp only[List.filter_filter,Bool.and_comm]
end Go.Aa.T
set_option linter.unusedVariables false
set_option linter.unusedSimpArgs false
set_option maxRecDepth 100000
namespace Go.Aa.T
open Go.Aa Go.Proofs
end Go.Aa.T
set_option linter.unusedVariables false
set_option linter.unusedSimpArgs false
set_option maxRecDepth 100000
namespace Go.Aa.T
open Go.Aa Go.Proofs
end Go.Aa.T
set_option linter.unusedVariables false
set_option linter.unusedSimpArgs false
set_option maxRecDepth 100000
namespace Go.Aa.T
open Go.Aa Go.Proofs
theorem fitNs_len(F:List UInt8→Int)(l:List Node):(fitNs F l).length≤l.length:=by
 unfold fitNs;rw[List.length_map];exact List.length_filter_le _ _
theorem known15':Gives cfg 15 [] (.bool true):=by
 obtain⟨H,h⟩:=known_ret15
 exact Gives.of h
theorem few_nd{s:St}(fs:FewS s):∀n∈s.nodes,NdIn n:=fun n hn=>by
 have f:=fewNd (fs.node n hn)
 exact⟨by have:=f.labels;omega,by have:=f.taints;omega⟩
theorem few_pd{p:Pod}(h:fewPd p=true):PdIn p:=by
 have f:=fewPod h
 exact⟨by have:=f.need;omega,by have:=f.labels;omega,by have:=f.sel;omega,by have:=f.tols;omega⟩
end Go.Aa.T
set_option linter.unusedVariables false
set_option linter.unusedSimpArgs false
set_option maxRecDepth 100000
namespace Go.Aa.T
open Go.Aa Go.Proofs
def fitS(s:St)(p:Pod)(nm:List UInt8):Int:=fitG (dropS s p.name) p nm (skewS (dropS s p.name) p nm).1 (skewS (dropS s p.name) p nm).2
theorem fit_any(s:St)(hs:StIn s)(hn:∀n∈s.nodes,NdIn n)(hl:s.nodes.length≤1000)(p:Pod)(hp:PdIn p)(nm:List UInt8):Gives cfg 21 [encSt s,encPd p,.str nm] (.int .i64 (fitS s p nm)):=
 fit_gen s hs hn p hp nm _ _ (skew_any (dropS s p.name) p nm (by have:=(drop_inF hs p.name).pods;omega) hl fun n h=>(hn n h).labels)
theorem pods_at{s:St}:∀{l:List Pod},podsE s l=0→∀p∈l,p.node≠[]→∃n,findG Node.name s.nodes p.node=some n
 |[],_,p,hp,_=>by cases hp
 |x::l,h,p,hp,hne=>by
  unfold podsE at h
  split at h
  ·cases h
  ·rename_i h1
   rcases List.mem_cons.1 hp with rfl|hp
   ·cases hf:findG Node.name s.nodes p.node with
    |some n=>exact⟨n,rfl⟩
    |none=>exact absurd ⟨hne,hf⟩ h1
   ·exact pods_at h p hp hne
end Go.Aa.T
set_option linter.unusedVariables false
set_option linter.unusedSimpArgs false
set_option maxRecDepth 100000
namespace Go.Aa.T
open Go.Aa Go.Proofs
theorem sum_under{vs:List (List Amount)}{c:List Amount}(ov:∀v∈vs,VOk v)(oc:VOk c)(rc:rgA c)(h:∀z,totQ vs z≤getQ c z):SumOk [] vs:=by
 have e0:∀z,getQ [] z=0:=fun z=>rfl
 refine⟨fun z=>by have:=h z;have:=(rg_get rc z).2;rw[e0];omega,?_⟩
 have key:∀(vs:List (List Amount)),(∀v∈vs,VOk v)→∀x∈allNames vs,0<totQ vs x:=by
  intro vs
  induction vs with
  |nil=>intro _ x hx;cases hx
  |cons v vs ih=>
   intro ov x hx
   have q0:=pok_nn (ov v (by simp)).p x
   have q1:=totQ_nn (vs:=vs) (fun w hw=>ov w (by simp[hw])) x
   rw[allNames_cons]at hx
   simp only[totQ]
   rcases List.mem_append.1 hx with h|h
   ·have:=(pok_pos (ov v (by simp)).p).1 h;omega
   ·have:=ih (fun w hw=>ov w (by simp[hw])) x h;omega
 have:=rise_len (namesOf_rise (nms []++allNames vs)) oc.rise fun x hx=>by
  have h1:=key vs ov x (by simpa using namesOf_mem.1 hx)
  have h2:=h x
  exact(pok_pos oc.p).2 (by omega)
 have:=oc.len
 simp only[List.length_map]at*;omega
theorem ckAl_of{X:Type}{ck:X→Int}{nm:X→List UInt8}{s:List X}:∀{post:List X}{i:Nat},(∀x∈post,ck x=0)→(∀(j:Nat)(x:X),post[j]?=some x→ordG nm s (i+j) x=false)→ckAl ck nm s i post=0
 |[],i,_,_=>rfl
 |x::post,i,h1,h2=>by
  unfold ckAl
  rw[if_pos (h1 x (by simp)),if_neg (by rw[show ordG nm s i x=false from h2 0 x rfl];simp)]
  exact ckAl_of (fun y hy=>h1 y (by simp[hy])) fun j y hy=>by
   rw[show i+1+j=i+(j+1)by omega]
   exact h2 (j+1) y hy
theorem ckAll_srt{l:List Pod}(hl:l.length≤128)(h1:∀x∈l,ckPd x=0)(hs:srtP l):ckAll 128 ckPd Pod.name l=0:=by
 unfold ckAll
 rw[if_pos hl]
 refine ckAl_of h1 fun j x hx=> ?_
 rw[Nat.zero_add]
 cases j with
 |zero=>rfl
 |succ j=>
  obtain⟨h2,e2⟩:=List.getElem?_eq_some_iff.1 hx
  have hy:l[j]?=some l[j]:=List.getElem?_eq_getElem _
  unfold ordG
  simp only[hy]
  have:=List.pairwise_iff_getElem.1 hs j (j+1) (by omega) h2 (by omega)
  rw[e2]at this
  exact bl_asym this
theorem podsE_of{s:St}:∀{l:List Pod},(∀p∈l,p.node≠[]→∃n,findG Node.name s.nodes p.node=some n)→podsE s l=0
 |[],_=>rfl
 |x::l,h=>by
  unfold podsE
  rw[if_neg (by
   rintro⟨h1,h2⟩
   obtain⟨n,hn⟩:=h x (by simp) h1
   rw[h2]at hn;cases hn)]
  exact podsE_of fun p hp=>h p (by simp[hp])
theorem roomE_of{s:St}:∀{l:List Node},(∀n∈l,(usedS s n.name).2=0∧fitsV (usedS s n.name).1 n.cap=true)→roomE s l=0
 |[],_=>rfl
 |x::l,h=>by
  unfold roomE
  obtain⟨h1,h2⟩:=h x (by simp)
  rw[if_pos h1,if_pos h2]
  exact roomE_of fun n hn=>h n (by simp[hn])
def atN(p:Pod)(z:List UInt8):Pod:={p with node:=z}
theorem put_parts(p:Pod)(l:List Pod):∃A B,putL p l=A++p::B∧offP p.name l=A++B:=
 ⟨(offP p.name l).takeWhile (before p.name),(offP p.name l).dropWhile (before p.name),rfl,List.takeWhile_append_dropWhile.symm⟩
theorem fitG_zero{s:St}{p:Pod}{nm:List UInt8}{sk:Int}{ok:Bool}(h:fitG s p nm sk ok=0):(∃n,findG Node.name s.nodes nm=some n)∧(freeS s nm).2=0∧fitsV p.need (freeS s nm).1=true:=by
 unfold fitG at h
 cases hf:findG Node.name s.nodes nm with
 |none=>rw[hf]at h;cases h
 |some n=>
  rw[hf]at h
  simp only at h
  refine⟨⟨n,rfl⟩,?_⟩
  split at h
  ·split at h
   ·cases h
   ·split at h
    ·split at h
     ·rename_i h4
      simpa using h4
     ·cases h
    ·cases h
  ·cases h
theorem ckPd_at{p:Pod}{z:List UInt8}(h:ckPd p=0)(hz:isName z=true):ckPd (atN p z)=0:=by
 have h0:=fun x hx=>firstE_zero h x hx
 have hm:maybeE z=0:=by unfold maybeE;rw[if_pos hz];split<;>rfl
 unfold ckPd
 refine(?_:∀{l:List Int},(∀x∈l,x=0)→firstE l=0) ?_
 ·intro l
  induction l with
  |nil=>intro _;rfl
  |cons a l ih=>
   intro h
   unfold firstE
   rw[if_pos (h a (by simp))]
   exact ih fun x hx=>h x (by simp[hx])
 ·intro x hx
  simp only[List.mem_cons,List.not_mem_nil,or_false]at hx
  rcases hx with rfl|rfl|rfl|rfl|rfl|rfl|rfl|rfl|rfl|rfl
  ·exact h0 (if isName p.name then 0 else 3) (by simp)
  ·exact h0 (maybeE p.owner) (by simp)
  ·exact h0 (prioE p) (by simp)
  ·exact h0 (ckV p.need) (by simp)
  ·exact h0 (ckS p.labels) (by simp)
  ·exact h0 (ckM p.sel) (by simp)
  ·exact h0 (ckL p.tols) (by simp)
  ·exact h0 (maybeE p.key) (by simp)
  ·exact h0 (mostE p) (by simp)
  ·exact hm
theorem ckN_is{n:Node}(h:ckN n=0):isName n.name=true:=by
 have:=firstE_zero h (if isName n.name then 0 else 3) (by simp)
 by_cases hn:isName n.name=true
 ·exact hn
 ·rw[if_neg hn]at this;cases this
theorem sound_ck{s:St}(r:RgS s)(h:ckSt s=0){p:Pod}(hp:ckPd p=0)(hl:s.pods.length<128){z:List UInt8}(hf:fitS s p z=0):ckSt (putS s (atN p z))=0:=by
 have g:=gdS h
 have h1:ckAll 32 ckN Node.name s.nodes=0:=firstE_zero h _ (by simp)
 have h2:ckAll 128 ckPd Pod.name s.pods=0:=firstE_zero h _ (by simp)
 have h3:ckAll 8 ckB Bud.name s.buds=0:=firstE_zero h _ (by simp)
 have h4:podsE s s.pods=0:=firstE_zero h _ (by simp)
 obtain⟨⟨n,hn⟩,hfr,hfit⟩:=fitG_zero hf
 have hn:findG Node.name s.nodes z=some n:=hn
 have hnm:=findG_mem hn
 have en:n.name=z:=by simpa using List.find?_some hn
 have hzn:isName z=true:=by rw[←en];exact ckN_is ((ckAll_mem h1).2 n hnm)
 have hp':=ckPd_at hp hzn
 have op:VOk p.need:=vOk (firstE_zero hp _ (by simp))
 have l1:=put_len (atN p z) s.pods
 have l2:=off_len p.name s.pods
 obtain⟨A,B,eL,eO⟩:=put_parts (atN p z) s.pods
 have eO:offP p.name s.pods=A++B:=eO
 have hmem:∀x∈putL (atN p z) s.pods,x=atN p z∨x∈s.pods:=fun x hx=>by
  rw[eL]at hx
  rcases List.mem_append.1 hx with hx|hx
  ·exact .inr (off_mem (nm:=p.name) (by rw[eO];exact List.mem_append_left _ hx)).1
  ·rcases List.mem_cons.1 hx with rfl|hx
   ·exact .inl rfl
   ·exact .inr (off_mem (nm:=p.name) (by rw[eO];exact List.mem_append_right _ hx)).1
 have c2:ckAll 128 ckPd Pod.name (putL (atN p z) s.pods)=0:=ckAll_srt (by rw[l1];show(offP p.name s.pods).length+1≤128;omega) (fun x hx=>by
  rcases hmem x hx with rfl|hx
  ·exact hp'
  ·exact(ckAll_mem h2).2 x hx) (put_srt g.pods)
 have c4:podsE (putS s (atN p z)) (putL (atN p z) s.pods)=0:=podsE_of fun x hx hne=>by
  rcases hmem x hx with rfl|hx
  ·exact⟨n,hn⟩
  ·exact pods_at h4 x hx hne
 have c5:roomE (putS s (atN p z)) s.nodes=0:=roomE_of fun m hm=>by
  have hfm:=g.find m hm
  have hfm':findG Node.name (putS s (atN p z)).nodes m.name=some m:=hfm
  obtain⟨u,eu,ou,hu,hfu⟩:=less_used g p.name hm
  have oc:=g.cap m hm
  have hle:=(fits_get ou.p oc.p).1 hfu
  have dA:ndS (dropS s p.name) m.name=(A.filter (onP m.name)).map (·.need)++(B.filter (onP m.name)).map (·.need):=by
   have:(dropS s p.name).pods=A++B:=eO
   simp[ndS,onS,this]
  have eP:(putS s (atN p z)).pods=A++atN p z::B:=eL
  by_cases hz:m.name=z
  ·have hmn:m=n:=by
    rw[hz,hn]at hfm
    exact(Option.some.inj hfm).symm
   subst hmn
   obtain⟨b,eb,ob,hb⟩:=sub_ok oc ou hle
   have hfd:findG Node.name (dropS s p.name).nodes m.name=some m:=hfm
   have efr:freeS (dropS s p.name) m.name=(b,0):=by rw[free_at hfd (by rw[eu]),eu];exact eb
   rw[←hz,efr]at hfit
   have hneed:=(fits_get op.p ob.p).1 hfit
   have hon:onP m.name (atN p z)=true:=by simp[onP,atN,hz];rw[←hz];exact g.name m hm
   have dP:ndS (putS s (atN p z)) m.name=(A.filter (onP m.name)).map (·.need)++p.need::(B.filter (onP m.name)).map (·.need):=by
    simp[ndS,onS,eP,hon];rfl
   have hz2:∀w,totQ (ndS (putS s (atN p z)) m.name) w≤getQ m.cap w:=fun w=>by
    have a1:=hneed w
    have a2:=hu w
    rw[dP,tot_mid,←dA]
    rw[hb]at a1
    omega
   have ov:∀v∈ndS (putS s (atN p z)) m.name,VOk v:=fun v hv=>by
    obtain⟨x,hx,rfl⟩:=List.mem_map.1 hv
    have hx:x∈(putS s (atN p z)).pods:=(List.mem_filter.1 hx).1
    rcases hmem x hx with rfl|hx
    ·exact op
    ·exact g.need x hx
   obtain⟨w,ew,ow,hw,-⟩:=sum_ok vok_nil ov (sum_under ov oc (r.cap m hm) hz2)
   rw[used_at hfm',ew]
   refine⟨rfl,(fits_get ow.p oc.p).2 fun q=> ?_⟩
   have e0:getQ [] q=0:=rfl
   have:=hz2 q
   rw[hw,e0];omega
  ·have hon:onP m.name (atN p z)=false:=by simp[onP,atN];intro e;exact absurd e.symm hz
   have dP:ndS (putS s (atN p z)) m.name=ndS (dropS s p.name) m.name:=by
    rw[dA]
    simp[ndS,onS,eP,hon]
   have hfd:findG Node.name (dropS s p.name).nodes m.name=some m:=hfm
   rw[used_at hfm',dP,←used_at hfd,eu]
   exact⟨rfl,hfu⟩
 have e:ckSt (putS s (atN p z))=firstE [ckAll 32 ckN Node.name s.nodes,ckAll 128 ckPd Pod.name (putL (atN p z) s.pods),ckAll 8 ckB Bud.name s.buds,podsE (putS s (atN p z)) (putL (atN p z) s.pods),roomE (putS s (atN p z)) s.nodes,(totalS s).2]:=rfl
 rw[e,h1,c2,h3,c4,c5,g.total]
 rfl
end Go.Aa.T
set_option linter.unusedVariables false
set_option linter.unusedSimpArgs false
set_option maxRecDepth 100000
namespace Go.Aa.T
open Go.Aa Go.Proofs
end Go.Aa.T
set_option linter.unusedVariables false
set_option linter.unusedSimpArgs false
set_option maxRecDepth 100000
namespace Go.Aa.T
open Go.Aa Go.Proofs
theorem put_in{s:St}(h:StIn s){p:Pod}(hp:Vin p.need)(hl:s.pods.length<900):StIn (putS s p):=by
 have l1:=put_len p s.pods
 have l2:=off_len p.name s.pods
 refine⟨h.nodes,by show(putL p s.pods).length≤1000;omega,h.cap,fun x hx=> ?_⟩
 obtain⟨A,B,e1,e2⟩:=put_parts p s.pods
 have hx:x∈putL p s.pods:=hx
 rw[e1]at hx
 rcases List.mem_append.1 hx with hx|hx
 ·exact h.need x (off_mem (nm:=p.name) (by rw[e2];exact List.mem_append_left _ hx)).1
 ·rcases List.mem_cons.1 hx with rfl|hx
  ·exact hp
  ·exact h.need x (off_mem (nm:=p.name) (by rw[e2];exact List.mem_append_right _ hx)).1
theorem sound_loop(s:St)(p:Pod)(l:List (List UInt8))(hl:l.length≤1000)
 (hP:∀z∈l,GivesF cfg 45 [encSt s,encPd (atN p z)] (encSt (putS s (atN p z))))(hC:∀z∈l,Gives cfg 32 [encSt (putS s (atN p z))] (.int .i64 0)):
 ∀(post:List (List UInt8))(i:Nat)(hd:l.drop i=post)(w:List UInt8)(T:Env)
 (hT:Has T [(2,.ptr 0 0),(3,.ptr 1 0),(5,.sl .sh (l.map .str)),(6,.int .i64 i)]),
 Goes cfg a14 k14_0 T ⟨[(encSt s).cells,[.str p.name,.str p.owner,.int .i64 p.prio,.sl .sh (p.need.map encA),.sl .sh (p.labels.map encP),.sl .sh (p.sel.map encM),.sl .sh (p.tols.map encL),.str p.key,.int .i64 p.most,.str w,.bool p.hold]],[],[]⟩ (IsRet (.bool true)):=by
 intro post
 induction post with
 |nil=>
  intro i hd w T hT
  have hge:=drop_ge hd
  exact gG 60 _ hT (.len (lM .sh .str l)<|.no (dF ((↑i:Int)<(↑l.length:Int)))<|.fin ((.ret (.bool true),{boxes:=[[.sl .sh (s.nodes.map encN),.sl .sh (s.pods.map encPd),.sl .sh (s.buds.map encB)],[.str p.name,.str p.owner,.int .i64 p.prio,.sl .sh (p.need.map encA),.sl .sh (p.labels.map encP),.sl .sh (p.sel.map encM),.sl .sh (p.tols.map encL),.str p.key,.int .i64 p.most,.str w,.bool p.hold]],toks:=[],loops:=[]:Heap})) rfl)
 |cons x post ih=>
  intro i hd w T hT
  have hlt:=drop_lt hd
  have hnx:=drop_next hd
  have hxi:idxA 1 (.sl .sh (l.map .str)) (.int .i64 (i:Nat))=some (.ref [.str x]):=idx_row (f:=AV.str) hd rfl
  have g1:=hP x (drop_mem hd)
  have g2:=hC x (drop_mem hd)
  have ih':=ih (i+1) hnx x
  have g3:∀H,Does cfg (.call (.c (.func 45 [])) [.c (encSt s),.c (.agg [.str p.name,.str p.owner,.int .i64 p.prio,.sl .sh (p.need.map encA),.sl .sh (p.labels.map encP),.sl .sh (p.sel.map encM),.sl .sh (p.tols.map encL),.str p.key,.int .i64 p.most,.str x,.bool p.hold])]) H (encSt (putS s (atN p x))) H:=fun H=>gf45 g1 H
  generalize putS s (atN p x)=t at g2 g3
  exact let ζ1:Heap:={boxes:=[[.sl .sh (s.nodes.map encN),.sl .sh (s.pods.map encPd),.sl .sh (s.buds.map encB)],[.str p.name,.str p.owner,.int .i64 p.prio,.sl .sh (p.need.map encA),.sl .sh (p.labels.map encP),.sl .sh (p.sel.map encM),.sl .sh (p.tols.map encL),.str p.key,.int .i64 p.most,.str x,.bool p.hold]],toks:=[],loops:=[]:Heap};gG 160 _ hT (.len (lM .sh .str l)<|.yes (dT ((↑i:Int)<(↑l.length:Int)))<|.idx hxi<|.effY (show Does cfg (.call (.c (.func 45 [])) [.c (encSt s),.c (.agg [.str p.name,.str p.owner,.int .i64 p.prio,.sl .sh (p.need.map encA),.sl .sh (p.labels.map encP),.sl .sh (p.sel.map encM),.sl .sh (p.tols.map encL),.str p.key,.int .i64 p.most,.str x,.bool p.hold])]) ζ1 (encSt t) ζ1 from g3 _)<|.callI g2<|.ff<|.bin (iI i)<|.cutQ k14_0 [(2,.ptr 0 0),(3,.ptr 1 0),(5,.sl .sh (List.map .str l)),(6,.int .i64 (↑(i+1)))] (ζ1) (fun T hT=>(ih' T hT)))
theorem fitSound(s:St)(p:Pod)(r:RgS s)(rp:rgA p.need):Gives cfg 14 [encSt s,encPd p] (.bool true):=by
 refine Gives.run (l14 _ _) ?_
 have g:=good_any s r
 have f17:=fewPd_any p
 cases hg:(fewSt s&&ckSt s==0)with
 |false=>
  rw[hg]at g
  exact let ζ1:List AV:=[.sl .sh (s.nodes.map encN),.sl .sh (s.pods.map encPd),.sl .sh (s.buds.map encB)];gG 90 [] trivial (.callI known15'<|.ff<|.callI g<|.tt<|.tt<|.tt<|.tt<|.fin ((.ret (.bool true),{boxes:=[ζ1,[.str p.name,.str p.owner,.int .i64 p.prio,.sl .sh (p.need.map encA),.sl .sh (p.labels.map encP),.sl .sh (p.sel.map encM),.sl .sh (p.tols.map encL),.str p.key,.int .i64 p.most,.str p.node,.bool p.hold]],toks:=[],loops:=[]:Heap})) rfl)
 |true=>
  rw[hg]at g
  cases hf:fewPd p with
  |false=>
   rw[hf]at f17
   exact let ζ1:List AV:=[.str p.name,.str p.owner,.int .i64 p.prio,.sl .sh (p.need.map encA),.sl .sh (p.labels.map encP),.sl .sh (p.sel.map encM),.sl .sh (p.tols.map encL),.str p.key,.int .i64 p.most,.str p.node,.bool p.hold];let ζ2:List AV:=[.sl .sh (s.nodes.map encN),.sl .sh (s.pods.map encPd),.sl .sh (s.buds.map encB)];gG 90 [] trivial (.callI known15'<|.ff<|.callI g<|.ff<|.callI f17<|.tt<|.tt<|.tt<|.fin ((.ret (.bool true),{boxes:=[ζ2,ζ1],toks:=[],loops:=[]:Heap})) rfl)
  |true=>
   rw[hf]at f17
   have o19:=ofPd_any p hf
   have c18:=ckPd_ref p
   by_cases hc:ckPd p=0
   ·rw[hc]at c18
    by_cases h0:s.pods.length<128
    ·simp only[Bool.and_eq_true,beq_iff_eq]at hg
     obtain⟨hg1,hg2⟩:=hg
     have fs:=fewS hg1
     have hs:=stIn fs r
     have nd:=few_nd fs
     have pi:=few_pd hf
     have srt:=ck_srt hg2
     have fn:=fs.nodes
     have ns:=nodes_any s p (fitS s p) (fun n _=>fit_any s hs nd (by omega) p pi n.name) (by omega)
     have hz:∀z∈fitNs (fitS s p) s.nodes,fitS s p z=0:=fun z hz=>by
      unfold fitNs at hz
      obtain⟨n,hn,rfl⟩:=List.mem_map.1 hz
      simpa using(List.mem_filter.1 hn).2
     have hl:=fitNs_len (fitS s p) s.nodes
     generalize fitNs (fitS s p) s.nodes=l at ns hz hl
     have h1:∀z∈l,GivesF cfg 45 [encSt s,encPd (atN p z)] (encSt (putS s (atN p z))):=fun z h=>put_gives s (atN p z) (by omega) srt
     have h2:∀z∈l,Gives cfg 32 [encSt (putS s (atN p z))] (.int .i64 0):=fun z h=>by
      have:=ckSt_any (putS s (atN p z)) (put_in hs ⟨pi.need,rp⟩ (by omega))
      rwa [sound_ck r hg2 hc h0 (hz z h)]at this
     have lo:=sound_loop s p l (by omega) h1 h2 l 0 rfl p.node
     have lo:∀T,Has T [(2,.ptr 0 0),(3,.ptr 1 0),(5,.sl .sh (l.map .str)),(6,.int .i64 (0:Nat))]→Goes cfg a14 k14_0 T ⟨[(encSt s).cells,(encPd p).cells],[],[]⟩ (IsRet (.bool true)):=lo
     exact let ζ1:List AV:=[.str p.name,.str p.owner,.int .i64 p.prio,.sl .sh (p.need.map encA),.sl .sh (p.labels.map encP),.sl .sh (p.sel.map encM),.sl .sh (p.tols.map encL),.str p.key,.int .i64 p.most,.str p.node,.bool p.hold];let ζ2:List AV:=[.sl .sh (s.nodes.map encN),.sl .sh (s.pods.map encPd),.sl .sh (s.buds.map encB)];gG 240 [] trivial (.callI known15'<|.ff<|.callI g<|.ff<|.callI f17<|.ff<|.callI o19<|.callI c18<|.ff<|.len (lM .sh encPd s.pods)<|.no (dF ((128:Int)≤(↑s.pods.length:Int)))<|.callG ([.agg ζ2,.agg ζ1]) (.sl .sh (List.map .str l)) ns ⟨rfl,rfl⟩ Res.p<|.cutQ k14_0 [(2,.ptr 0 0),(3,.ptr 1 0),(5,.sl .sh (List.map .str l)),(6,.int .i64 0)] ({boxes:=[ζ2,ζ1],toks:=[],loops:=[]:Heap}) (fun T hT=>(lo T hT)))
    ·exact let ζ1:List AV:=[.str p.name,.str p.owner,.int .i64 p.prio,.sl .sh (p.need.map encA),.sl .sh (p.labels.map encP),.sl .sh (p.sel.map encM),.sl .sh (p.tols.map encL),.str p.key,.int .i64 p.most,.str p.node,.bool p.hold];let ζ2:List AV:=[.sl .sh (s.nodes.map encN),.sl .sh (s.pods.map encPd),.sl .sh (s.buds.map encB)];gG 120 [] trivial (.callI known15'<|.ff<|.callI g<|.ff<|.callI f17<|.ff<|.callI o19<|.callI c18<|.ff<|.len (lM .sh encPd s.pods)<|.yes (dT ((128:Int)≤(↑s.pods.length:Int)))<|.fin ((.ret (.bool true),{boxes:=[ζ2,ζ1],toks:=[],loops:=[]:Heap})) rfl)
   ·generalize ckPd p=c at c18 hc
    exact let ζ1:List AV:=[.str p.name,.str p.owner,.int .i64 p.prio,.sl .sh (p.need.map encA),.sl .sh (p.labels.map encP),.sl .sh (p.sel.map encM),.sl .sh (p.tols.map encL),.str p.key,.int .i64 p.most,.str p.node,.bool p.hold];let ζ2:List AV:=[.sl .sh (s.nodes.map encN),.sl .sh (s.pods.map encPd),.sl .sh (s.buds.map encB)];gG 120 [] trivial (.callI known15'<|.ff<|.callI g<|.ff<|.callI f17<|.ff<|.callI o19<|.callI c18<|.yes (show(c !=(0:Int))=true from(by simpa using hc))<|.tt<|.fin ((.ret (.bool true),{boxes:=[ζ2,ζ1],toks:=[],loops:=[]:Heap})) rfl)
end Go.Aa.T
set_option linter.unusedVariables false
set_option linter.unusedSimpArgs false
set_option maxRecDepth 100000
namespace Go.Aa.T
open Go.Aa Go.Proofs
theorem law14(xs:List AV)(h:TyAll Tryz.prog 6 [26,35] xs)(hz:SzAll Tryz.prog [26,35] xs):∃H',lim cfg (.fn 14) xs Heap.nil=some (.ret (.bool true),H'):=by
 obtain⟨x1,x2,rfl,h1,h2⟩:=tyall_2 h
 obtain⟨a,rfl,r,-⟩:=ty26 (k:=0) h1
 obtain⟨p,rfl,rp,-⟩:=ty35 (k:=2) h2
 exact(fitSound a p r rp).ret
end Go.Aa.T
namespace Go.Proofs
open Go.Shelf
def Tryz.lays160_ren:Go.Shelf.Ren:=⟨fun|160=>215|232=>223|231=>222|227=>224|234=>226|233=>225|236=>228|235=>227|228=>241|271=>244|151=>243|197=>242|120=>253|152=>252|260=>251|137=>255|119=>256|224=>257|225=>258|217=>259|266=>260|n=>n,fun|9=>9|4=>4|3=>3|5=>5|117=>280|116=>279|0=>0|124=>283|21=>21|105=>297|46=>244|119=>310|139=>313|138=>312|n=>n,fun|3=>1|4=>2|n=>n⟩
theorem Tryz.lays160:Go.Proofs.Lays.n160 Tryz.prog Tryz.lays160_ren:={
 mixed:=by kernel_rfl
 f119:=Tryz.func256.trans (congrArg some (by kernel_rfl))
 f120:=Tryz.func253.trans (congrArg some (by kernel_rfl))
 f137:=Tryz.func255.trans (congrArg some (by kernel_rfl))
 f151:=Tryz.func243.trans (congrArg some (by kernel_rfl))
 f152:=Tryz.func252.trans (congrArg some (by kernel_rfl))
 f160:=Tryz.func215.trans (congrArg some (by kernel_rfl))
 f197:=Tryz.func242.trans (congrArg some (by kernel_rfl))
 f217:=Tryz.func259.trans (congrArg some (by kernel_rfl))
 f224:=Tryz.func257.trans (congrArg some (by kernel_rfl))
 f225:=Tryz.func258.trans (congrArg some (by kernel_rfl))
 f227:=Tryz.func224.trans (congrArg some (by kernel_rfl))
 f228:=Tryz.func241.trans (congrArg some (by kernel_rfl))
 f231:=Tryz.func222.trans (congrArg some (by kernel_rfl))
 f232:=Tryz.func223.trans (congrArg some (by kernel_rfl))
 f233:=Tryz.func225.trans (congrArg some (by kernel_rfl))
 f234:=Tryz.func226.trans (congrArg some (by kernel_rfl))
 f235:=Tryz.func227.trans (congrArg some (by kernel_rfl))
 f236:=Tryz.func228.trans (congrArg some (by kernel_rfl))
 f260:=Tryz.func251.trans (congrArg some (by kernel_rfl))
 f266:=Tryz.func260.trans (congrArg some (by kernel_rfl))
 f271:=Tryz.func244.trans (congrArg some (by kernel_rfl))
 t0:=Tryz.underlying0
 a0:=Tryz.isAgg0
 z0:=Tryz.sizeOf0
 v0:=Tryz.zeroValue0
 t3:=Tryz.underlying3
 a3:=Tryz.isAgg3
 z3:=Tryz.sizeOf3
 v3:=Tryz.zeroValue3
 t4:=Tryz.underlying4
 a4:=Tryz.isAgg4
 z4:=Tryz.sizeOf4
 v4:=Tryz.zeroValue4
 t5:=Tryz.underlying5
 a5:=Tryz.isAgg5
 z5:=Tryz.sizeOf5
 v5:=Tryz.zeroValue5
 t9:=Tryz.underlying9
 a9:=Tryz.isAgg9
 z9:=Tryz.sizeOf9
 v9:=Tryz.zeroValue9
 t21:=Tryz.underlying21
 a21:=Tryz.isAgg21
 z21:=Tryz.sizeOf21
 v21:=Tryz.zeroValue21
 t46:=Tryz.underlying244
 a46:=Tryz.isAgg244
 z46:=Tryz.sizeOf244
 v46:=Tryz.zeroValue244
 t105:=Tryz.underlying297
 a105:=Tryz.isAgg297
 z105:=Tryz.sizeOf297
 v105:=Tryz.zeroValue297
 t116:=Tryz.underlying279
 a116:=Tryz.isAgg279
 z116:=Tryz.sizeOf279
 t117:=Tryz.underlying280
 a117:=Tryz.isAgg280
 z117:=Tryz.sizeOf280
 v117:=Tryz.zeroValue280
 t119:=Tryz.underlying310
 a119:=Tryz.isAgg310
 z119:=Tryz.sizeOf310
 t124:=Tryz.underlying283
 a124:=Tryz.isAgg283
 z124:=Tryz.sizeOf283
 v124:=Tryz.zeroValue283
 t138:=Tryz.underlying312
 a138:=Tryz.isAgg312
 z138:=Tryz.sizeOf312
 v138:=Tryz.zeroValue312
 t139:=Tryz.underlying313
 a139:=Tryz.isAgg313
 z139:=Tryz.sizeOf313
 v139:=Tryz.zeroValue313
 g3:=by kernel_rfl
 g4:=by kernel_rfl}
def Tryz.lays106_ren:Go.Shelf.Ren:=⟨fun|106=>118|213=>186|265=>213|n=>n,fun|9=>9|3=>3|n=>n,fun|n=>n⟩
theorem Tryz.lays106:Go.Proofs.Lays.n106 Tryz.prog Tryz.lays106_ren:={
 mixed:=by kernel_rfl
 f106:=Tryz.func118.trans (congrArg some (by kernel_rfl))
 f213:=Tryz.func186.trans (congrArg some (by kernel_rfl))
 f265:=Tryz.func213.trans (congrArg some (by kernel_rfl))
 t3:=Tryz.underlying3
 a3:=Tryz.isAgg3
 z3:=Tryz.sizeOf3
 v3:=Tryz.zeroValue3
 t9:=Tryz.underlying9
 a9:=Tryz.isAgg9
 z9:=Tryz.sizeOf9
 v9:=Tryz.zeroValue9}
def Tryz.lays190_ren:Go.Shelf.Ren:=⟨fun|190=>204|125=>218|258=>217|128=>238|129=>239|302=>229|303=>230|304=>231|305=>232|306=>233|307=>234|308=>235|309=>236|310=>237|333=>245|329=>246|330=>247|334=>248|335=>249|336=>250|344=>254|n=>n,fun|31=>57|9=>9|3=>3|46=>244|0=>0|51=>293|53=>254|4=>4|183=>286|182=>285|131=>135|5=>5|218=>300|222=>304|228=>307|229=>308|n=>n,fun|n=>n⟩
theorem Tryz.lays190:Go.Proofs.Lays.n190 Tryz.prog Tryz.lays190_ren:={
 mixed:=by kernel_rfl
 f125:=Tryz.func218.trans (congrArg some (by kernel_rfl))
 f128:=Tryz.func238.trans (congrArg some (by kernel_rfl))
 f129:=Tryz.func239.trans (congrArg some (by kernel_rfl))
 f190:=Tryz.func204.trans (congrArg some (by kernel_rfl))
 f258:=Tryz.func217.trans (congrArg some (by kernel_rfl))
 f302:=Tryz.func229.trans (congrArg some (by kernel_rfl))
 f303:=Tryz.func230.trans (congrArg some (by kernel_rfl))
 f304:=Tryz.func231.trans (congrArg some (by kernel_rfl))
 f305:=Tryz.func232.trans (congrArg some (by kernel_rfl))
 f306:=Tryz.func233.trans (congrArg some (by kernel_rfl))
 f307:=Tryz.func234.trans (congrArg some (by kernel_rfl))
 f308:=Tryz.func235.trans (congrArg some (by kernel_rfl))
 f309:=Tryz.func236.trans (congrArg some (by kernel_rfl))
 f310:=Tryz.func237.trans (congrArg some (by kernel_rfl))
 f329:=Tryz.func246.trans (congrArg some (by kernel_rfl))
 f330:=Tryz.func247.trans (congrArg some (by kernel_rfl))
 f333:=Tryz.func245.trans (congrArg some (by kernel_rfl))
 f334:=Tryz.func248.trans (congrArg some (by kernel_rfl))
 f335:=Tryz.func249.trans (congrArg some (by kernel_rfl))
 f336:=Tryz.func250.trans (congrArg some (by kernel_rfl))
 f344:=Tryz.func254.trans (congrArg some (by kernel_rfl))
 t0:=Tryz.underlying0
 a0:=Tryz.isAgg0
 z0:=Tryz.sizeOf0
 v0:=Tryz.zeroValue0
 t3:=Tryz.underlying3
 a3:=Tryz.isAgg3
 z3:=Tryz.sizeOf3
 v3:=Tryz.zeroValue3
 t4:=Tryz.underlying4
 a4:=Tryz.isAgg4
 z4:=Tryz.sizeOf4
 v4:=Tryz.zeroValue4
 t5:=Tryz.underlying5
 a5:=Tryz.isAgg5
 z5:=Tryz.sizeOf5
 v5:=Tryz.zeroValue5
 t9:=Tryz.underlying9
 a9:=Tryz.isAgg9
 z9:=Tryz.sizeOf9
 v9:=Tryz.zeroValue9
 t31:=Tryz.underlying57
 a31:=Tryz.isAgg57
 z31:=Tryz.sizeOf57
 v31:=Tryz.zeroValue57
 t46:=Tryz.underlying244
 a46:=Tryz.isAgg244
 z46:=Tryz.sizeOf244
 v46:=Tryz.zeroValue244
 t51:=Tryz.underlying293
 a51:=Tryz.isAgg293
 z51:=Tryz.sizeOf293
 v51:=Tryz.zeroValue293
 t53:=Tryz.underlying254
 a53:=Tryz.isAgg254
 z53:=Tryz.sizeOf254
 v53:=Tryz.zeroValue254
 t131:=Tryz.underlying135
 a131:=Tryz.isAgg135
 z131:=Tryz.sizeOf135
 v131:=Tryz.zeroValue135
 t182:=Tryz.underlying285
 a182:=Tryz.isAgg285
 z182:=Tryz.sizeOf285
 v182:=Tryz.zeroValue285
 t183:=Tryz.underlying286
 a183:=Tryz.isAgg286
 z183:=Tryz.sizeOf286
 v183:=Tryz.zeroValue286
 t218:=Tryz.underlying300
 a218:=Tryz.isAgg300
 z218:=Tryz.sizeOf300
 v218:=Tryz.zeroValue300
 t222:=Tryz.underlying304
 a222:=Tryz.isAgg304
 z222:=Tryz.sizeOf304
 v222:=Tryz.zeroValue304
 t228:=Tryz.underlying307
 a228:=Tryz.isAgg307
 z228:=Tryz.sizeOf307
 v228:=Tryz.zeroValue307
 t229:=Tryz.underlying308
 a229:=Tryz.isAgg308
 z229:=Tryz.sizeOf308
 v229:=Tryz.zeroValue308}
end Go.Proofs
set_option linter.unusedVariables false
set_option linter.unusedSimpArgs false
namespace Go.Proofs
open Go.Shelf Go.RowKit Go.Lib
theorem run_copy_cellsN{P:Program}{es:Nat}(w:World)(dT sT ty elem:TypeId)(b o dLen dCap:Nat)(a:Addr)(sLen sCap:Nat)(cs:List Value)
 (hu:P.underlying dT=some (.slice elem))(hs:(P.info? elem).map (·.size)=some es)(hn:cs.length=Nat.min sLen dLen*es)
 (hsrc:∀j v,cs[j]?=some v→w.cell? (a.add j)=some v)(hc:∀j,j<cs.length→(w.cell? ⟨b,o+j,none⟩).isSome=true)(hf:∀j,j<cs.length→w.frozen? ⟨b,o+j,none⟩=false)(h1:∀v∈cs,v.oneCell'=true):
 (Builtin.copy_ #[dT,sT] ty #[.slice (some ⟨b,o,none⟩) dLen dCap,.slice (some a) sLen sCap]).run P w=.ok (goInt (Nat.min sLen dLen)) (w.setCells b o cs):=by
 have hl:=run_loadCells_list (P:=P) w a cs hsrc
 have hst:=run_storeCells_cells (P:=P) b o cs 0 w (by simpa using hc) (by simpa using hf) h1
 cases hq:P.info? elem with
 |none=>simp[hq]at hs
 |some i=>
  have hi:i.size=es:=by simpa[hq]using hs
  simp[Builtin.copy_,run_underlying hu,Builtin.lenOf,Builtin.firstCells,sizeOf,typeInfo,hq,hi,←hn,hl,hst]
set_option maxHeartbeats 4000000 in
set_option maxRecDepth 100000 in
theorem ins_shift(b off n c i vb voff m vc:Nat)(cs vs:List Value)(w:World)(hi:i<n)(hm:0<m)(hroom:n+m≤c)(hc63:c≤9223372036854775807)(hvb:vb≠b)
 (hcl:cs.length=n*11)(hvl:vs.length=m*11)
 (hcs:∀j v,cs[j]?=some v→w.cell? ⟨b,off+j,none⟩=some v)(hsp:∀j,j<(n+m)*11→(w.cell? ⟨b,off+j,none⟩).isSome=true)(hfz:∀j,j<(n+m)*11→w.frozen? ⟨b,off+j,none⟩=false)
 (hvs:∀j v,vs[j]?=some v→w.cell? ⟨vb,voff+j,none⟩=some v)(h1c:∀v∈cs,v.oneCell'=true)(h1v:∀v∈vs,v.oneCell'=true)
 (tA tB:TypeId)(kA kB:Nat)(hsa:w.shape? vb=some (tA,kA))(hsb:w.shape? b=some (tB,kB))(hkB:kB≠0)(hfa:w.frozen? ⟨vb,voff,none⟩=false)(hfe:w.frozen? ⟨vb,kA,none⟩=false):
 Calls Tryz.prog 119 #[.slice (some ⟨b,off,none⟩) n c,.int .i64 i,.slice (some ⟨vb,voff,none⟩) m vc] w fun e w'=>
  e=.returned (.slice (some ⟨b,off,none⟩) (n+m) c)∧w'=(w.drew.setCells b (off+(i+m)*11) (cs.drop (i*11))).setCells b (off+i*11) vs:=by
 have mixed:Tryz.prog.follows .mixedOrders=true:=by kernel_rfl
 have hz1:¬((m:Int)=0):=by omega
 have hz2:¬((i:Int)=(n:Int)):=by omega
 have hsz:(Tryz.prog.info? 35).map (·.size)=some 11:=by kernel_rfl
 have hov:∀lb cb,(callFunc 187 #[.slice (some ⟨vb,voff,none⟩) m vc,.slice (some ⟨b,off+(i+m)*11,none⟩) lb cb]).run Tryz.prog w=.ok (.value (.bool false)) w:=fun lb cb=>by
  rw[run_callFunc_extern Tryz.func187 (by kernel_rfl) (by kernel_rfl) (by kernel_rfl) (e:=Extern.SlicesOverlaps.overlaps #[23,23] #[4]) (by kernel_rfl),
   Lib.run_overlaps_apart w 23 4 35 Tryz.underlying23 11 Tryz.sizeOf35 ⟨vb,voff,none⟩ ⟨b,off+(i+m)*11,none⟩ m vc lb cb hvb tA tB kA kB hsa hsb hkB hfa hfe]
  rfl
 have hdl:(cs.drop (i*11)).length=(n-i)*11:=by rw[List.length_drop,hcl];omega
 have hw1:IntKind.i64.wrap ((i:Int)+(m:Int))=(i:Int)+(m:Int):=by rw[IntKind.wrap_i64];omega
 have hb1:(0:Int)≤(i:Int)+(m:Int):=by omega
 have hin:i≤n:=by omega
 have htn:((i:Int)+(m:Int)).toNat=i+m:=by omega
 have hb2:¬(c=i+m):=by omega
 have hb3:(i:Int)≤(n:Int)+(m:Int):=by omega
 have hb4:¬(c=i):=by omega
 have hcp1:∀ty dc sc,(Builtin.copy_ #[23,23] ty #[.slice (some ⟨b,off+(i+m)*11,none⟩) (n+m-(i+m)) dc,.slice (some ⟨b,off+i*11,none⟩) (n+m-i) sc]).run Tryz.prog w.drew=.ok (goInt (Nat.min (n+m-i) (n+m-(i+m)))) (w.drew.setCells b (off+(i+m)*11) (cs.drop (i*11))):=fun ty dc sc=>
  run_copy_cellsN w.drew _ _ ty 35 b (off+(i+m)*11) (n+m-(i+m)) dc ⟨b,off+i*11,none⟩ (n+m-i) sc (cs.drop (i*11)) Tryz.underlying23 hsz (by rw[hdl];simp only[Nat.min_def];split<;>omega)
   (fun j v hj=>by rw[Addr.add_lit,Nat.add_assoc];exact hcs (i*11+j) v (by rwa [List.getElem?_drop]at hj))
   (fun j hj=>by rw[Nat.add_assoc];exact hsp _ (by omega)) (fun j hj=>by rw[Nat.add_assoc];exact hfz _ (by omega)) (fun v hv=>h1c v (List.mem_of_mem_drop hv))
 obtain⟨W1,hW1⟩:∃W1,W1=w.drew.setCells b (off+(i+m)*11) (cs.drop (i*11)):=⟨_,rfl⟩
 have hsp1:∀k,k<(n+m)*11→(W1.cell? ⟨b,off+k,none⟩).isSome=true:=fun k hk=>by
  rw[hW1]
  exact isSome_setCells b _ _ _ (fun j hj=>by rw[Nat.add_assoc];exact hsp _ (by omega)) _ (hsp k hk)
 have hcp2:∀(W:World),(∀x,W.cell? x=W1.cell? x)→(∀x,W.frozen? x=W1.frozen? x)→∀ty dc,(Builtin.copy_ #[23,23] ty #[.slice (some ⟨b,off+i*11,none⟩) (n+m-i) dc,.slice (some ⟨vb,voff,none⟩) m vc]).run Tryz.prog W=.ok (goInt (Nat.min m (n+m-i))) (W.setCells b (off+i*11) vs):=fun W hWc hWf ty dc=>
  run_copy_cellsN W _ _ ty 35 b (off+i*11) (n+m-i) dc ⟨vb,voff,none⟩ m vc vs Tryz.underlying23 hsz (by rw[hvl];simp only[Nat.min_def];split<;>omega)
   (fun j v hj=>by
     rw[Addr.add_lit,hWc,hW1,World.cell?_setCells_out b _ _ _ _ (fun h _=>absurd h hvb)]
     exact hvs j v hj)
   (fun j hj=>by rw[hWc,Nat.add_assoc];exact hsp1 _ (by omega)) (fun j hj=>by rw[hWf,hW1,World.frozen?_setCells,Nat.add_assoc];exact hfz _ (by omega)) h1v
 rw[←hW1]at hcp1
 go_enter Tryz.func119,Tryz.ntmps119
 go_wp2_with(simp only[hov])
 go_region_law_o(refine step_copy_runI rfl _ _ 23 23 rfl _ _ (by simp[Act.eval,Act.put]) (by simp[Act.eval,Act.put]) (hcp1 _ _ _) ?_)
 go_wp2_with(at_builtin;refine wpList_copy_runI _ rfl _ _ 23 23 rfl _ _ rfl rfl (hcp2 _ (fun _=>rfl) (fun _=>rfl) _ _) ?_)
 go_ret
 first|exact⟨rfl,rfl⟩|exact⟨rfl,by rw[hW1]⟩
set_option maxHeartbeats 4000000 in
set_option maxRecDepth 100000 in
theorem ins_end_room(b off n c vb voff m vc:Nat)(vs:List Value)(w:World)(i0:TypeInfo)(hi0:Tryz.prog.info? 35=some i0)(hzs:i0.size=11)(hm:0<m)(hroom:n+m≤c)(hc63:c≤9223372036854775807)
 (hvl:vs.length=m*11)(hsp:∀j,j<m*11→(w.cell? ⟨b,off+n*11+j,none⟩).isSome=true)(hfz:∀j,j<m*11→w.frozen? ⟨b,off+n*11+j,none⟩=false)
 (hvs:∀j v,vs[j]?=some v→w.cell? ⟨vb,voff+j,none⟩=some v)(h1v:∀v∈vs,v.oneCell'=true):
 Calls Tryz.prog 119 #[.slice (some ⟨b,off,none⟩) n c,.int .i64 n,.slice (some ⟨vb,voff,none⟩) m vc] w fun e w'=>
  e=.returned (.slice (some ⟨b,off,none⟩) (n+m) c)∧w'=w.setCells b (off+n*11) vs:=by
 have mixed:Tryz.prog.follows .mixedOrders=true:=by kernel_rfl
 have hz1:¬((m:Int)=0):=by omega
 have hsrc:Src Tryz.prog i0.size 23 (.slice (some ⟨vb,voff,none⟩) m vc) m vs w:=by
  rw[hzs]
  exact Src.ofSlice w Tryz.underlying23 ⟨vb,voff,none⟩ m vc vs (by omega) (fun j u hj=>by rw[Addr.add_lit];exact hvs j u hj) h1v
 go_enter Tryz.func119,Tryz.ntmps119
 go_wp2_with(at_builtin;refine wpList_append_room_src _ rfl _ _ 23 23 rfl 35 i0 Tryz.underlying23 hi0 b off n c rfl _ rfl m vs hsrc hroom (by rw[hvl,hzs];exact hsp) (by rw[hvl,hzs];exact hfz) ?_)
 go_ret
 first|exact⟨rfl,rfl⟩|exact⟨rfl,by rw[hzs]⟩
set_option maxHeartbeats 4000000 in
set_option maxRecDepth 100000 in
theorem ins_end_grow(base:Option Addr)(n c vb voff m vc:Nat)(cs vs:List Value)(w:World)(i0:TypeInfo)(z:Value)(hi0:Tryz.prog.info? 35=some i0)(hz0:i0.zero=some z)(hzs:i0.size=11)(hzb:i0.bytes=184)(hm:0<m)(hnc:n≤c)(hroom:c<n+m)(hbig:(n+m)*184≤140737488355328)
 (hcl:cs.length=n*11)(hvl:vs.length=m*11)(hnil:base=none→n=0)
 (hcs:∀a,base=some a→∀j v,cs[j]?=some v→w.cell? (a.add j)=some v)
 (hvs:∀j v,vs[j]?=some v→w.cell? ⟨vb,voff+j,none⟩=some v)(h1v:∀v∈vs,v.oneCell'=true):
 Calls Tryz.prog 119 #[.slice base n c,.int .i64 n,.slice (some ⟨vb,voff,none⟩) m vc] w fun e w'=>
  e=.returned (.slice (some ⟨w.heap.size,0,none⟩) (n+m) (grownCap w (n+m) c 35))∧
  w'=w.drew.alloc (.cells ((cs++vs).toArray++Builtin.zeroCells z.cells (grownCap w (n+m) c 35-(n+m))) 35):=by
 have mixed:Tryz.prog.follows .mixedOrders=true:=by kernel_rfl
 have hz1:¬((m:Int)=0):=by omega
 have hsrc:Src Tryz.prog i0.size 23 (.slice (some ⟨vb,voff,none⟩) m vc) m vs w:=by
  rw[hzs]
  exact Src.ofSlice w Tryz.underlying23 ⟨vb,voff,none⟩ m vc vs (by omega) (fun j u hj=>by rw[Addr.add_lit];exact hvs j u hj) h1v
 have hold:(Builtin.firstCells i0.size n (.slice base n c)).run Tryz.prog w.drew=.ok cs.toArray w.drew:=by
  rw[hzs]
  cases base with
  |none=>
   have h0:=hnil rfl
   subst h0
   rw[List.length_eq_zero_iff.1 (by omega:cs.length=0)]
   exact run_firstCells_none w.drew 11 0 0 c
  |some a=>exact run_firstCells_some w.drew 11 n a n c cs (by omega) (fun j v hj=>hcs a rfl j v hj)
 have hrun:∀ty,(Builtin.append_ #[23,23] ty #[.slice base n c,.slice (some ⟨vb,voff,none⟩) m vc]).run Tryz.prog w=_:=fun ty=>
  run_append_grow_src w 23 23 ty 35 i0 _ Tryz.underlying23 hi0 hz0 base n c cs hold _ m vs hsrc hroom (by omega) (by rw[hzb];exact growslice_fits hroom hbig)
 go_enter Tryz.func119,Tryz.ntmps119
 cases base with
 |none=>
  have h0:=hnil rfl
  subst h0
  go_wp2_with(at_builtin;refine Lib.wpList_append_run _ rfl _ _ _ _ rfl _ _ rfl rfl _ _ (hrun _) ?_)
  all_goals(go_ret;exact⟨rfl,rfl⟩)
 |some a=>
  obtain⟨ab,ao,asp⟩:=a
  go_wp2_with(at_builtin;refine Lib.wpList_append_run _ rfl _ _ _ _ rfl _ _ rfl rfl _ _ (hrun _) ?_)
  all_goals(go_ret;exact⟨rfl,rfl⟩)
set_option maxHeartbeats 4000000 in
set_option maxRecDepth 100000 in
theorem ins_grow(b off n c i vb voff m vc:Nat)(cs vs:List Value)(w:World)(i0:TypeInfo)(z:Value)(hi0:Tryz.prog.info? 35=some i0)(hz0:i0.zero=some z)(hzs:i0.size=11)(hzb:i0.bytes=184)(hzc:z.cells.size=11)(hi:i<n)(hm:0<m)(hnc:n≤c)(hroom:c<n+m)(hbig:(n+m)*184≤140737488355328)
 (hcl:cs.length=n*11)(hvl:vs.length=m*11)
 (hcs:∀j v,cs[j]?=some v→w.cell? ⟨b,off+j,none⟩=some v)
 (hvs:∀j v,vs[j]?=some v→w.cell? ⟨vb,voff+j,none⟩=some v)(h1c:∀v∈cs,v.oneCell'=true)(h1v:∀v∈vs,v.oneCell'=true):
 Calls Tryz.prog 119 #[.slice (some ⟨b,off,none⟩) n c,.int .i64 i,.slice (some ⟨vb,voff,none⟩) m vc] w fun e w'=>
  e=.returned (.slice (some ⟨w.heap.size,0,none⟩) (n+m) (grownCap w (n+m) c 35))∧
  w'=(((w.alloc (.cells ((cs.take (i*11)).toArray++Builtin.zeroCells z.cells (n+m-i)++Builtin.zeroCells z.cells (grownCap w (n+m) c 35-(n+m))) 35)).drew.setCells w.heap.size (i*11) vs).drew).setCells w.heap.size ((i+m)*11) (cs.drop (i*11)):=by
 have mixed:Tryz.prog.follows .mixedOrders=true:=by kernel_rfl
 have hz1:¬((m:Int)=0):=by omega
 have hz2:¬((i:Int)=(n:Int)):=by omega
 have hz3:(c:Int)<(n:Int)+(m:Int):=by omega
 have hsz:(Tryz.prog.info? 35).map (·.size)=some 11:=by rw[hi0];simp[hzs]
 have hbw:b<w.heap.size:=block_lt_of_cell (hcs 0 _ (List.getElem?_eq_getElem (by omega)))
 have hvw:vb<w.heap.size:=block_lt_of_cell (hvs 0 _ (List.getElem?_eq_getElem (by omega)))
 have hkk:(n:Int)+(m:Int)-(i:Int)=((n+m-i:Nat):Int):=by omega
 have hik:i+(n+m-i)=n+m:=by omega
 have hold:(Builtin.firstCells i0.size i (.slice (some ⟨b,off,none⟩) i c)).run Tryz.prog w.drew=.ok (cs.take (i*11)).toArray w.drew:=by
  rw[hzs]
  exact run_firstCells_some w.drew 11 i ⟨b,off,none⟩ i c (cs.take (i*11)) (by rw[List.length_take];omega) (fun j v hj=>by
   rw[Addr.add_lit]
   rw[List.getElem?_take]at hj
   split at hj
   ·exact hcs j v hj
   ·cases hj)
 have hrz:∀ty,(Builtin.append_ #[23,3] ty #[.slice (some ⟨b,off,none⟩) i c,.int .i64 ((n:Int)+(m:Int)-(i:Int))]).run Tryz.prog w=
  .ok (.slice (some ⟨w.heap.size,0,none⟩) (n+m) (grownCap w (n+m) c 35)) (w.drew.alloc (.cells ((cs.take (i*11)).toArray++Builtin.zeroCells z.cells (n+m-i)++Builtin.zeroCells z.cells (grownCap w (n+m) c 35-(n+m))) 35)):=fun ty=>by
  have h:=Lib.run_append_grow_zeros w 23 3 ty 35 i0 _ .i64 .i64 Tryz.underlying23 Tryz.underlying3 hi0 hz0 (some ⟨b,off,none⟩) i c (cs.take (i*11)) hold (n+m-i) (by omega) (by omega) (by omega) (by omega) (by rw[hzb];omega) (by rw[hzb,hik];exact growslice_fits hroom hbig)
  rw[hik]at h
  rw[hkk]
  exact h
 obtain⟨G,hG⟩:∃G,G=grownCap w (n+m) c 35:=⟨_,rfl⟩
 obtain⟨ROW,hROW⟩:∃ROW:Array Value,ROW=(cs.take (i*11)).toArray++Builtin.zeroCells z.cells (n+m-i)++Builtin.zeroCells z.cells (G-(n+m)):=⟨_,rfl⟩
 rw[←hG]at hrz⊢
 rw[←hROW]at hrz⊢
 have hRl:(n+m)*11≤ROW.size:=by
  rw[hROW]
  simp[Builtin.zeroCells,hzc]
  omega
 obtain⟨W1,hW1⟩:∃W1,W1=w.drew.alloc (.cells ROW 35):=⟨_,rfl⟩
 rw[←hW1]at hrz
 have hN:∀j,j<(n+m)*11→(W1.cell? ⟨w.heap.size,j,none⟩).isSome=true:=fun j hj=>by
  rw[hW1,World.cell?_alloc_at (w:=w.drew) ROW _ w.heap.size j rfl,Array.getElem?_eq_getElem (by omega)];rfl
 have hNf:∀j,W1.frozen? ⟨w.heap.size,j,none⟩=false:=fun j=>by rw[hW1];exact World.frozen?_alloc_at (w:=w.drew) ROW _ w.heap.size j rfl
 have hOb:∀j v,w.cell? ⟨b,j,none⟩=some v→W1.cell? ⟨b,j,none⟩=some v:=fun j v h=>by rw[hW1,World.cell?_alloc_past (w:=w.drew) _ b j hbw];exact h
 have hOv:∀j v,w.cell? ⟨vb,j,none⟩=some v→W1.cell? ⟨vb,j,none⟩=some v:=fun j v h=>by rw[hW1,World.cell?_alloc_past (w:=w.drew) _ vb j hvw];exact h
 have hcpA:∀(W:World),(∀x,W.cell? x=W1.cell? x)→(∀x,W.frozen? x=W1.frozen? x)→∀ty dc,(Builtin.copy_ #[23,23] ty #[.slice (some ⟨w.heap.size,i*11,none⟩) (n+m-i) dc,.slice (some ⟨vb,voff,none⟩) m vc]).run Tryz.prog W=.ok (goInt (Nat.min m (n+m-i))) (W.setCells w.heap.size (i*11) vs):=fun W hWc hWf ty dc=>
  run_copy_cellsN W _ _ ty 35 w.heap.size (i*11) (n+m-i) dc ⟨vb,voff,none⟩ m vc vs Tryz.underlying23 hsz (by rw[hvl];simp only[Nat.min_def];split<;>omega)
   (fun j v hj=>by rw[Addr.add_lit,hWc];exact hOv _ v (hvs j v hj))
   (fun j hj=>by rw[hWc];exact hN _ (by omega)) (fun j hj=>by rw[hWf];exact hNf _) h1v
 have hGn:n+m≤G:=by rw[hG];exact grownCap_ge w _ _ _
 have hG63:G≤9223372036854775807:=by
  have:=grownCap_le_maxLen w (n+m) c 35 (by unfold maxLen;omega)
  rw[←hG]at this
  unfold maxLen at this
  omega
 have hGi:¬(G=i):=by omega
 have hGim:¬(G=i+m):=by omega
 have hci:¬(c=i):=by omega
 have hbN:b≠w.heap.size:=by omega
 have hdl:(cs.drop (i*11)).length=(n-i)*11:=by rw[List.length_drop,hcl];omega
 have hcpB:∀(W:World),(∀x,W.cell? x=(W1.setCells w.heap.size (i*11) vs).cell? x)→(∀x,W.frozen? x=(W1.setCells w.heap.size (i*11) vs).frozen? x)→∀ty dc sc,(Builtin.copy_ #[23,23] ty #[.slice (some ⟨w.heap.size,(i+m)*11,none⟩) (n+m-(i+m)) dc,.slice (some ⟨b,off+i*11,none⟩) (n-i) sc]).run Tryz.prog W=.ok (goInt (Nat.min (n-i) (n+m-(i+m)))) (W.setCells w.heap.size ((i+m)*11) (cs.drop (i*11))):=fun W hWc hWf ty dc sc=>
  run_copy_cellsN W _ _ ty 35 w.heap.size ((i+m)*11) (n+m-(i+m)) dc ⟨b,off+i*11,none⟩ (n-i) sc (cs.drop (i*11)) Tryz.underlying23 hsz (by rw[hdl];simp only[Nat.min_def];split<;>omega)
   (fun j v hj=>by
     rw[Addr.add_lit,hWc,World.cell?_setCells_out _ _ _ _ _ (fun h _=>absurd h hbN),Nat.add_assoc]
     exact hOb _ v (hcs (i*11+j) v (by rwa [List.getElem?_drop]at hj)))
   (fun j hj=>by rw[hWc];exact isSome_setCells _ _ _ _ (fun t ht=>hN _ (by omega)) _ (hN _ (by omega)))
   (fun j hj=>by rw[hWf,World.frozen?_setCells];exact hNf _) (fun v hv=>h1c v (List.mem_of_mem_drop hv))
 subst hW1
 have hE1:∀x,((w.alloc (.cells ROW 35)).drew).cell? x=(w.drew.alloc (.cells ROW 35)).cell? x:=fun x=>rfl
 have hE2:∀x,((w.alloc (.cells ROW 35)).drew).frozen? x=(w.drew.alloc (.cells ROW 35)).frozen? x:=fun x=>rfl
 have hF1:∀x,(((w.alloc (.cells ROW 35)).drew.setCells w.heap.size (i*11) vs).drew).cell? x=((w.drew.alloc (.cells ROW 35)).setCells w.heap.size (i*11) vs).cell? x:=fun x=>rfl
 have hF2:∀x,(((w.alloc (.cells ROW 35)).drew.setCells w.heap.size (i*11) vs).drew).frozen? x=((w.drew.alloc (.cells ROW 35)).setCells w.heap.size (i*11) vs).frozen? x:=fun x=>rfl
 have hw1:IntKind.i64.wrap ((i:Int)+(m:Int))=(i:Int)+(m:Int):=by rw[IntKind.wrap_i64];omega
 have hb1:(0:Int)≤(i:Int)+(m:Int):=by omega
 have hin:i≤n:=by omega
 have htn:((i:Int)+(m:Int)).toNat=i+m:=by omega
 have hb3:(i:Int)≤(n:Int):=by omega
 clear hkk hik hold hROW hG hRl
 go_enter Tryz.func119,Tryz.ntmps119
 go_wp2_with(first
  |(at_builtin;refine Lib.wpList_append_run _ rfl _ _ _ _ rfl _ _ rfl rfl _ _ (hrz _) ?_)
  |(at_builtin;refine wpList_copy_runI _ rfl _ _ 23 23 rfl _ _ rfl rfl (hcpA _ hE1 hE2 _ _) ?_)
  |(at_builtin;refine wpList_copy_runI _ rfl _ _ 23 23 rfl _ _ rfl rfl (hcpB _ (fun _=>rfl) (fun _=>rfl) _ _ _) ?_))
 go_region_law_o(refine step_copy_runI rfl _ _ 23 23 rfl (.slice (some ⟨w.heap.size,(i+m)*11,none⟩) (n+m-(i+m)) (G-(i+m))) (.slice (some ⟨b,off+i*11,none⟩) (n-i) (c-i)) (by simp[Act.eval,Act.put]) (by simp[Act.eval,Act.put]) (hcpB _ hF1 hF2 3 (G-(i+m)) (c-i)) ?_)
 go_wp2
 go_ret
 exact⟨rfl,rfl⟩
end Go.Proofs
