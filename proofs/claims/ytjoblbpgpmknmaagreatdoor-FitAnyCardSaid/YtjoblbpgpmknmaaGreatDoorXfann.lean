/-
  WHAT THE LAW LEANS ON, part 14 of 15: a machine of values and its soundness; the functions of the law upon it; what they come to.
-/
import Derived.Test.YtjoblbpgpmknmaaGreatDoorXfanm
set_option linter.unusedVariables false
set_option linter.unusedSimpArgs false
set_option maxRecDepth 100000
namespace Go.Aa.T
open Go.Aa Go.Proofs
theorem does_callN{xs:List AV}{g:FuncId}{v0 v:AV}{H H0 H2:Heap}(h0:lim cfg (.fn g) xs Heap.nil=some (.ret v0,H0))(hn:isData (shutA v0)=false)(h:lim cfg (.fn g) xs H=some (.ret v,H2))(hx:xs.map shutA=xs)(hd:xs.all isData=true):
 Does cfg (.callM (.c (.func g [])) (xs.map .c)) H (shutA v) (trunc H.boxes.length H.toks.length (shutA v) H2):=fun T=>by
 have e:(xs.map Opd.c).map (fun x=>shutA (ev T x))=xs:=by rw[List.map_map];exact hx
 simp only[opStep,e]
 rw[show ev T (.c (.func g []))=.func g []from rfl]
 simp only[callW,hd,List.all_nil,Bool.and_self,if_true,List.append_nil,h0,hn,Bool.false_eq_true,if_false,callE,h]
theorem trunc_new{B ex:List (List AV)}{nb k off n es:Nat}(hl:nb≤k):trunc nb 0 (.msl k off n es) ⟨B,[],[]⟩=⟨B,[],[]⟩:=by
 unfold trunc
 have hw:within nb 0 (.msl k off n es)=false:=by simp[within,in2,in1,in0];omega
 simp only[hw,List.length_nil,List.all_nil,Bool.true_and,Bool.and_false,Bool.false_and,Bool.false_eq_true,if_false,List.take_zero,ite_self]
theorem clone_lim{l:List Pod}(hl:l≠[])(hs:l.length≤100000)(B:List (List AV)):lim cfg (.fn 90) [.sl .sh (l.map encPd)] ⟨B,[],[]⟩=some (.ret (.msl B.length 0 l.length 11),⟨B++[pcs l],[],[]⟩):=by
 rw[lim_ext (g:=cloneE 11 184) rfl rfl]
 obtain⟨x,m,rfl⟩:=List.exists_cons_of_ne_nil hl
 have hd:dataOk ((x::m).map encPd)=true:=dataOk_map fun _=>rfl
 simp only[cloneE,List.map_cons,appendMA]
 rw[if_pos ⟨by trivial,by trivial,by simp only[List.length_cons,List.length_map]at hs⊢;omega,lenPd (l:=x::m),hd⟩]
 simp[pcs]
theorem clone_any{l:List Pod}(hl:l≠[])(hs:l.length≤100000)(B:List (List AV)):Does cfg (.callM (.c (.func 90 [])) [.c (.sl .sh (l.map encPd))]) ⟨B,[],[]⟩ (.msl B.length 0 l.length 11) ⟨B++[pcs l],[],[]⟩:=by
 have h:=does_callN (xs:=[.sl .sh (l.map encPd)]) (clone_lim hl hs []) rfl (clone_lim hl hs B) rfl rfl
 rw[show shutA (.msl B.length 0 l.length 11)=.msl B.length 0 l.length 11 from rfl,show(⟨B,[],[]⟩:Heap).boxes.length=B.length from rfl,show(⟨B,[],[]⟩:Heap).toks.length=0 from rfl,trunc_new (ex:=[]) (Nat.le_refl _)]at h
 exact h
theorem clone_none(B:List (List AV))(hB:Tame B):Does cfg (.callM (.c (.func 90 [])) [.c (.sl .sh [])]) ⟨B,[],[]⟩ (.sl .nil []) ⟨B,[],[]⟩:=by
 have h:∀H,lim cfg (.fn 90) [.sl .sh []] H=some (.ret (.sl .nil []),H):=fun H=>by
  rw[lim_ext (g:=cloneE 11 184) rfl rfl];rfl
 have h:=does_callN (xs:=[.sl .sh []]) (h Heap.nil) rfl (h ⟨B,[],[]⟩) rfl rfl
 have e:=trunc_tame (ex:=[]) (v:=.sl .nil []) hB rfl
 rw[List.append_nil]at e
 rw[show shutA (.sl .nil [])=.sl .nil []from rfl,show(⟨B,[],[]⟩:Heap).boxes.length=B.length from rfl,show(⟨B,[],[]⟩:Heap).toks.length=0 from rfl,e]at h
 exact h
inductive PR(kk:Nat)(n:Nat)(l:List Pod):AV→List (List AV)→Prop
 |some(Z:List AV)(hZ:Z.all data0=true)(hn:0<n)(hl:(pcs l++Z).length=n*11):PR kk n l (.msl kk 0 l.length 11) [pcs l++Z]
 |none(h0:n=0)(hl:l=[]):PR kk n l (.sl .nil []) []
abbrev stC(s:St)(v:AV):List AV:=[.sl .sh (s.nodes.map encN),v,.sl .sh (s.buds.map encB)]
def stA(s:St)(v:AV):AV:=.agg (stC s v)
def RetDr(B:List (List AV))(s:St)(nm:List UInt8)(r:ARes×Heap):Prop:=∃v ex,PR (B.length+3) s.pods.length (offP nm s.pods) v ex∧r=(.ret (stA s v),⟨B++([stC s v,[.str nm],stC s v]++ex),[],[]⟩)
theorem drop0(s:St)(nm:List UInt8)(hs:s.pods.length≤100000):Goes cfg a27 [.c c27] (initEnv [encSt s,.str nm]) ⟨[],[],[]⟩ (RetDr [] s nm):=by
 obtain⟨nodes,pods,buds⟩:=s
 have hT:Tame [(encSt ⟨nodes,pods,buds⟩).cells,[.str nm],[.sl .full [],.sl .full [],.sl .full []]]:=tame_data rfl
 by_cases hp:pods=[]
 ·subst hp
  have h1:=clone_none [(encSt ⟨nodes,[],buds⟩).cells,[.str nm],[.sl .full [],.sl .full [],.sl .full []]] hT
  have h2:=delete_nil (jj:=1) hT
  have out:RetDr [] ⟨nodes,[],buds⟩ nm (.ret (stA ⟨nodes,[],buds⟩ (.sl .nil [])),⟨[stC ⟨nodes,[],buds⟩ (.sl .nil []),[.str nm],stC ⟨nodes,[],buds⟩ (.sl .nil [])],[],[]⟩):=⟨_,[],.none rfl rfl,rfl⟩
  exact let ζ1:Heap:={boxes:=[(encSt {nodes:=nodes,pods:=[],buds:=buds:St}).cells,[.str nm],[.sl .full [],.sl .full [],.sl .full []]],toks:=[],loops:=[]:Heap};let ζ2:List AV:=[.sl .sh (List.map encN {nodes:=nodes,pods:=[],buds:=buds:St}.nodes),.sl .nil [],.sl .sh (List.map encB {nodes:=nodes,pods:=[],buds:=buds:St}.buds)];gG 60 [] trivial (.effY h1<|.effY h2<|.fin ((.ret (.agg ζ2),{boxes:=[ζ2,[.str nm],ζ2],toks:=[],loops:=[]:Heap})) (by exact out))
 ·have h1:=clone_any hp hs [(encSt ⟨nodes,pods,buds⟩).cells,[.str nm],[.sl .full [],.sl .full [],.sl .full []]]
  obtain⟨Z,hZ,hl,h2⟩:=delete_any (B:=[(encSt ⟨nodes,pods,buds⟩).cells,[.str nm],[.sl .full [],.sl .full [],.sl .full []],pcs pods]) (kk:=3) (jj:=1) (n:=pods.length) (nm:=nm) (C:=pods) (by simp only at hs;omega) (by decide) rfl rfl (tame_app (ex:=[pcs pods]) hT (by simp[pcs_data])) rfl
  have hpos:0<pods.length:=List.length_pos_iff.2 hp
  have out:RetDr [] ⟨nodes,pods,buds⟩ nm (.ret (stA ⟨nodes,pods,buds⟩ (.msl 3 0 (offP nm pods).length 11)),⟨[stC ⟨nodes,pods,buds⟩ (.msl 3 0 (offP nm pods).length 11),[.str nm],stC ⟨nodes,pods,buds⟩ (.msl 3 0 (offP nm pods).length 11),pcs (offP nm pods)++Z],[],[]⟩):=⟨_,_,.some Z hZ hpos hl,rfl⟩
  have h1':Does cfg (.callM (.c (.func 90 [])) [.c (.sl .sh (pods.map encPd))]) ⟨[(encSt ⟨nodes,pods,buds⟩).cells,[.str nm],[.sl .full [],.sl .full [],.sl .full []]],[],[]⟩ (.msl 3 0 pods.length 11) ⟨[(encSt ⟨nodes,pods,buds⟩).cells,[.str nm],[.sl .full [],.sl .full [],.sl .full []],pcs pods],[],[]⟩:=h1
  have h2':Does cfg (.callM (.c (.func 89 [])) [.c (.msl 3 0 pods.length 11),.c (.func 91 [.ptr 1 0])]) ⟨[(encSt ⟨nodes,pods,buds⟩).cells,[.str nm],[.sl .full [],.sl .full [],.sl .full []],pcs pods],[],[]⟩ (.msl 3 0 (offP nm pods).length 11) ⟨[(encSt ⟨nodes,pods,buds⟩).cells,[.str nm],[.sl .full [],.sl .full [],.sl .full []],pcs (offP nm pods)++Z],[],[]⟩:=h2
  generalize pcs (offP nm pods)++Z=R at h2' out
  generalize pcs pods=Q at h1' h2'
  exact let ζ1:List AV:=[.sl .sh (List.map encN {nodes:=nodes,pods:=pods,buds:=buds:St}.nodes),.msl (3:Nat) (0:Nat) (offP nm pods).length (11:Nat),.sl .sh (List.map encB {nodes:=nodes,pods:=pods,buds:=buds:St}.buds)];let ζ3:List AV:=[.sl .full [],.sl .full [],.sl .full []];let ζ2:Heap:={boxes:=[(encSt {nodes:=nodes,pods:=pods,buds:=buds:St}).cells,[.str nm],ζ3,Q],toks:=[],loops:=[]:Heap};gG 60 [] trivial (.effY h1'<|.effY h2'<|.fin ((.ret (.agg ζ1),{boxes:=[ζ1,[.str nm],ζ1,R],toks:=[],loops:=[]:Heap})) (by exact out))
def dropS(s:St)(nm:List UInt8):St:={s with pods:=offP nm s.pods}
theorem unrow_pods(Z:List AV):∀l:List Pod,unrow 11 l.length (pcs l++Z)=l.map encPd
 |[]=>rfl
 |x::l=>by
  have e:pcs (x::l)++Z=(encPd x).cells++(pcs l++Z):=by simp[pcs,rowCells]
  have ih:=unrow_pods Z l
  rw[e]
  show encPd x::unrow 11 l.length (pcs l++Z)=_
  rw[ih];rfl
theorem frz_pods{bs:List (List AV)}{kk:Nat}{l:List Pod}{Z:List AV}(hk:bs[kk]?=some (pcs l++Z))(hZ:Z.all data0=true):frz1 ⟨bs,[],[]⟩ (.msl kk 0 l.length 11)=some (.sl .sh (l.map encPd)):=by
 have hl:=pcs_len l
 simp only[frz1,hk,List.drop_zero]
 rw[if_pos ⟨by rw[List.length_append];omega,Nat.zero_le _,by decide,by rw[List.all_append,pcs_data,hZ];rfl⟩,unrow_pods]
theorem out_stA{bs:List (List AV)}{s:St}{v:AV}{l:List Pod}(hv:isData (shutA (stA s v))=false)(hs:shut1 v=v)(hf:frz1 ⟨bs,[],[]⟩ v=some (.sl .sh (l.map encPd))):dataOut ⟨bs,[],[]⟩ (stA s v)=some (encSt {s with pods:=l}):=by
 unfold dataOut
 rw[if_neg (by rw[hv];decide)]
 have:frzA ⟨bs,[],[]⟩ (stA s v)=some (encSt {s with pods:=l}):=by
  simp only[stA,frzA,frz2,frzL,hf]
  simp[frz1,encSt]
 rw[this]
 rfl
theorem pr_out{B:List (List AV)}{s:St}{l:List Pod}{v:AV}{ex:List (List AV)}{n:Nat}{b0 b1 b2:List AV}(h:PR (B.length+3) n l v ex):dataOut ⟨B++([b0,b1,b2]++ex),[],[]⟩ (stA s v)=some (encSt {s with pods:=l}):=by
 cases h with
 |some Z hZ hn hl=>
  refine out_stA rfl rfl (frz_pods ?_ hZ)
  rw[List.getElem?_append_right (by omega),Nat.add_sub_cancel_left]
  rfl
 |none h0 hl=>subst hl;exact out_stA rfl rfl rfl
theorem drop_gives(s:St)(nm:List UInt8)(hs:s.pods.length≤100000):GivesF cfg 27 [encSt s,.str nm] (encSt (dropS s nm)):=by
 obtain⟨r,h,v,ex,hp,rfl⟩:=drop0 s nm hs
 refine⟨_,_,(l27 _ _).trans h,pr_out (B:=[]) hp⟩
end Go.Aa.T
set_option linter.unusedVariables false
set_option linter.unusedSimpArgs false
set_option maxRecDepth 100000
namespace Go.Aa.T
open Go.Aa Go.Proofs
def before(nm:List UInt8)(p:Pod):Bool:=Op.bytesLess p.name nm
end Go.Aa.T
set_option linter.unusedVariables false
set_option linter.unusedSimpArgs false
set_option maxRecDepth 100000
namespace Go.Aa.T
open Go.Aa Go.Proofs
abbrev pzc:List AV:=[.sl .full [],.sl .full [],.sl .full []]
def srtP(l:List Pod):Prop:=l.Pairwise fun a b=>Op.bytesLess a.name b.name=true
theorem off_len(nm:List UInt8)(l:List Pod):(offP nm l).length≤l.length:=List.length_filter_le _ _
end Go.Aa.T
set_option linter.unusedVariables false
set_option linter.unusedSimpArgs false
set_option maxRecDepth 100000
namespace Go.Aa.T
open Go.Aa Go.Proofs
theorem less_lt{x y:List UInt8}:Op.bytesLess x y=true↔x<y:=by rw[bl_eq,decide_eq_true_eq]
theorem ord_of_not{x y:List UInt8}(h:¬(Op.bytesLess x y||x==y)=true):Op.bytesLess y x=true:=bl_not (by simpa only[Bool.not_eq_true]using h)
theorem ckAl_ordX{X:Type}{ck:X→Int}{nm:X→List UInt8}{s:List X}:∀{post:List X}{i:Nat},ckAl ck nm s i post=0→s.drop i=post→∀(j:Nat)(x p:X),i≤j+1→s[j+1]?=some x→s[j]?=some p→Op.bytesLess (nm p) (nm x)=true
 |[],i,_,hd,j,x,p,hi,hx,hp=>by
  have:=drop_ge hd
  have h2:j+1<s.length:=(List.getElem?_eq_some_iff.1 hx).1
  omega
 |y::post,i,h,hd,j,x,p,hi,hx,hp=>by
  unfold ckAl at h
  split at h
  ·split at h
   ·cases h
   ·rename_i ho
    rcases Nat.lt_or_ge i (j+1)with hlt|hge
    ·exact ckAl_ordX h (drop_next hd) j x p (by omega) hx hp
    ·have e:i=j+1:=by omega
     subst e
     have ey:y=x:=by
      have:=drop_at hd
      rw[hx]at this
      exact(Option.some.inj this).symm
     subst ey
     simp only[ordG,hp,Bool.not_eq_true]at ho
     exact ord_of_not (by rw[ho];decide)
  ·rename_i hx0;exact absurd h hx0
theorem names_ltX{X:Type}{most:Nat}{ck:X→Int}{nm:X→List UInt8}{s:List X}(h:ckAll most ck nm s=0):∀(d i:Nat)(x y:X),s[i]?=some x→s[i+d+1]?=some y→Op.bytesLess (nm x) (nm y)=true:=by
 have h0:ckAl ck nm s 0 s=0:=by
  unfold ckAll at h
  split at h
  ·exact h
  ·cases h
 intro d
 induction d with
 |zero=>intro i x y hx hy;exact ckAl_ordX h0 rfl i y x (by omega) hy hx
 |succ d ih=>
  intro i x y hx hy
  obtain⟨z,hz⟩:∃z,s[i+d+1]?=some z:=⟨s[i+d+1]'(by have:=(List.getElem?_eq_some_iff.1 hy).1;omega),List.getElem?_eq_getElem _⟩
  have a:=less_lt.1 (ih i x z hx hz)
  have b:=less_lt.1 (ckAl_ordX h0 rfl (i+d+1) y z (by omega) hy hz)
  exact less_lt.2 (List.lt_trans a b)
theorem ck_srt{s:St}(h:ckSt s=0):srtP s.pods:=by
 have h1:ckAll 128 ckPd Pod.name s.pods=0:=firstE_zero h _ (by simp)
 refine List.pairwise_iff_getElem.2 fun i j hi hj hij=> ?_
 exact names_ltX h1 (j-i-1) i _ _ (List.getElem?_eq_getElem hi) (by rw[show i+(j-i-1)+1=j by omega];exact List.getElem?_eq_getElem hj)
theorem off_mem{nm:List UInt8}{l:List Pod}{x:Pod}(h:x∈offP nm l):x∈l∧x.name≠nm:=by
 have:=List.mem_filter.1 h
 exact⟨this.1,by simpa using this.2⟩
end Go.Aa.T
set_option linter.unusedVariables false
set_option linter.unusedSimpArgs false
set_option maxRecDepth 100000
namespace Go.Aa.T
open Go.Aa Go.Proofs
theorem app_rowsX{es b:Nat}{H:Heap}{sk:SK}{ys zs:List AV}(h:(ys.length+zs.length)*b≤140737488355328)(hy:lenOk es ys=true)(hz:lenOk es zs=true)(hd:dataOk zs=true):
 appendA es b (rowH H ys) (rowS H ys) (.sl sk zs)=some (rowS H (ys++zs),rowH H (ys++zs)):=by
 cases ys with
 |nil=>exact app_full (by simpa using h) hz hd
 |cons y ys=>
  have h1:=app_own (es:=es) (bytes:=b) (t:=H.toks.length) (H:={H with toks:=H.toks++[(y::ys).length]}) (sk:=sk) (xs:=y::ys) (ys:=zs) (by simp) h hy hz hd
  simp only[rowS,rowH]
  rw[h1]
  simp[rowS,rowH]
  omega
def kD:Bool→Nat→SK
 |true,t=>.own t
 |false,_=>.full
instance(b:Bool)(t:Nat)(l:List AV):Shut (.sl (kD b t) l) (.sl .sh l):=⟨by cases b<;>exact⟨rfl,rfl⟩⟩
def DomP(key:List UInt8)(acc:List (List UInt8))(post:List Node)(r:ARes×Heap):Prop:=
 ∃l,Rise l∧(∀x,x∈l↔x∈acc∨x∈valsOf key post)∧∃b t,IsRet (.sl (kD b t) (l.map .str)) r
theorem DomP.conv{key:List UInt8}{acc acc':List (List UInt8)}{post post':List Node}(h:∀x,(x∈acc'∨x∈valsOf key post')↔(x∈acc∨x∈valsOf key post))(r:ARes×Heap)(hr:DomP key acc' post' r):DomP key acc post r:=by
 obtain⟨l,h1,h2,h3⟩:=hr
 exact⟨l,h1,fun x=>(h2 x).trans (h x),h3⟩
theorem rise_ins{acc:List (List UInt8)}{v:List UInt8}{j:Nat}(hr:Rise acc)(h1:∀x∈acc.take j,Op.bytesLess x v=true)(h2:∀x∈acc.drop j,Op.bytesLess v x=true):Rise (acc.take j++v::acc.drop j):=by
 have hr':Rise (acc.take j++acc.drop j):=by rw[List.take_append_drop];exact hr
 obtain⟨a1,a2,a3⟩:=List.pairwise_append.1 hr'
 refine List.pairwise_append.2 ⟨a1,List.Pairwise.cons h2 a2,fun x hx y hy=> ?_⟩
 rcases List.mem_cons.1 hy with rfl|hy
 ·exact h1 x hx
 ·exact a3 x hx y hy
theorem mem_ins{acc:List (List UInt8)}{v:List UInt8}{j:Nat}(x:List UInt8):x∈acc.take j++v::acc.drop j↔x=v∨x∈acc:=by
 have:x∈acc↔x∈acc.take j∨x∈acc.drop j:=by
  rw[←List.mem_append,List.take_append_drop]
 rw[List.mem_append,List.mem_cons,this]
 constructor
 ·rintro(h|h|h)
  ·exact .inr (.inl h)
  ·exact .inl h
  ·exact .inr (.inr h)
 ·rintro(h|h|h)
  ·exact .inr (.inl h)
  ·exact .inl h
  ·exact .inr (.inr h)
section
variable{B:List (List AV)}{tk:List Nat}{acc:List (List UInt8)}{v:List UInt8}{j:Nat}
theorem ins_one(hl:acc.length≤1000):appendA 1 16 (⟨B,tk,[]⟩:Heap) (.sl .full []) (.sl .sh ((acc.take j).map .str))=some (rowS ⟨B,tk,[]⟩ ((acc.take j).map .str),rowH ⟨B,tk,[]⟩ ((acc.take j).map .str)):=
 app_full (by simp;omega) (lenOk_map fun _=>rfl) (dataOk_map fun _=>rfl)
theorem ins_two(hl:acc.length≤1000):appendA 1 16 (rowH ⟨B,tk,[]⟩ ((acc.take j).map .str)) (rowS ⟨B,tk,[]⟩ ((acc.take j).map .str)) (.sl .full [.str v])=some (rowS ⟨B,tk,[]⟩ ((acc.take j++[v]).map .str),rowH ⟨B,tk,[]⟩ ((acc.take j++[v]).map .str)):=by
 rw[app_rowsX (by simp;omega) (lenOk_map fun _=>rfl) rfl rfl];simp
theorem ins_three(hl:acc.length≤1000):appendA 1 16 (rowH ⟨B,tk,[]⟩ ((acc.take j++[v]).map .str)) (rowS ⟨B,tk,[]⟩ ((acc.take j++[v]).map .str)) (.sl .sh ((acc.drop j).map .str))=some (.sl (kD true tk.length) ((acc.take j++v::acc.drop j).map .str),⟨B,tk++[(acc.take j++v::acc.drop j).length],[]⟩):=by
 rw[app_rowsX (by simp;omega) (lenOk_map fun _=>rfl) (lenOk_map fun _=>rfl) (dataOk_map fun _=>rfl)]
 have e:(acc.take j++[v]).map AV.str++(acc.drop j).map AV.str=(acc.take j++v::acc.drop j).map AV.str:=by simp
 rw[e]
 obtain⟨y,ys,hy⟩:∃y ys,acc.take j++v::acc.drop j=y::ys:=by
  cases h:acc.take j++v::acc.drop j with
  |nil=>simp at h
  |cons y ys=>exact⟨y,ys,rfl⟩
 rw[hy]
 simp[rowS,rowH,kD]
end
theorem dmR_loop(s:St)(key:List UInt8)(hs:s.nodes.length≤500)(hl:∀n∈s.nodes,n.labels.length<9223372036854775807):∀(post:List Node)(i:Nat)(hd:s.nodes.drop i=post)(hi:i≤s.nodes.length)(acc:List (List UInt8))(hr:Rise acc)(ha:acc.length≤i)(b:Bool)(t:Nat)(tk:List Nat)(T:Env)
 (hT:Has T [(1,.str key),(2,.ptr 0 0),(5,.sl (kD b t) (acc.map .str)),(6,.int .i64 i)]),Goes cfg a161 k161_0 T ⟨[(encSt s).cells],tk,[]⟩ (DomP key acc post):=by
 intro post
 induction post with
 |nil=>
  intro i hd hi acc hr ha b t tk T hT
  have hge:=drop_ge hd
  exact gG 60 _ hT (.len (lM .sh encN s.nodes)<|.no (dF ((↑i:Int)<(↑s.nodes.length:Int)))<|.fin ((.ret (.sl (kD b t) (List.map .str acc)),{boxes:=[[.sl .sh (s.nodes.map encN),.sl .sh (s.pods.map encPd),.sl .sh (s.buds.map encB)]],toks:=tk,loops:=[]:Heap})) (by exact⟨acc,hr,fun x=>by simp[valsOf],b,t,rfl⟩))
 |cons x post ih=>
  intro i hd hi acc hr ha b t tk T hT
  have hlt:=drop_lt hd
  have hnx:=drop_next hd
  have hxi:idxA 5 (.sl .sh (s.nodes.map encN)) (.int .i64 (i:Nat))=some (.ref (encN x).cells):=idx_row (f:=encN) hd rfl
  have g:=get2 x.labels key (hl x (drop_mem hd))
  cases hv:getP x.labels key with
  |none=>
   rw[hv]at g
   have g:Gives cfg 158 [.sl .sh (x.labels.map encP),.str key] (.tuple [.str [],.bool false]):=g
   have ih':=fun T hT=>Goes.imp (ih (i+1) hnx (by omega) acc hr (by omega) b t tk T hT) (DomP.conv (acc:=acc) (post:=x::post) fun z=>by simp[valsOf,hv])
   exact let ζ1:List AV:=[.sl .sh (x.labels.map encP),.str key];gG 120 _ hT (.len (lM .sh encN s.nodes)<|.yes (dT ((↑i:Int)<(↑s.nodes.length:Int)))<|.idx hxi<|.callK (ζ1) (.tuple [.str [],.bool false]) g<|.tt<|.bin (iI i)<|.cutQ k161_0 [(1,.str key),(2,.ptr 0 0),(5,.sl (kD b t) (List.map .str acc)),(6,.int .i64 (↑(i+1)))] ({boxes:=[[.sl .sh (s.nodes.map encN),.sl .sh (s.pods.map encPd),.sl .sh (s.buds.map encB)]],toks:=tk,loops:=[]:Heap}) (fun T hT=>(ih' T hT)))
  |some v=>
   rw[hv]at g
   have g:Gives cfg 158 [.sl .sh (x.labels.map encP),.str key] (.tuple [.str v,.bool true]):=g
   have hval:∀z,z∈valsOf key (x::post)↔z=v∨z∈valsOf key post:=fun z=>by simp[valsOf,hv]
   have fin:∀j,j≤acc.length→(∀z∈acc.take j,Op.bytesLess z v=true)→(∀z∈acc.drop j,Op.bytesLess v z=true)→∀T,Has T [(1,.str key),(2,.ptr 0 0),(5,.sl (kD true tk.length) ((acc.take j++v::acc.drop j).map .str)),(6,.int .i64 ((i+1:Nat):Int))]→Goes cfg a161 k161_0 T ⟨[(encSt s).cells],tk++[(acc.take j++v::acc.drop j).length],[]⟩ (DomP key acc (x::post)):=fun j hj h1 h2 T hT=>
    Goes.imp (ih (i+1) hnx (by omega) (acc.take j++v::acc.drop j) (rise_ins hr h1 h2) (by simp;omega) true tk.length _ T hT) (DomP.conv (acc:=acc) (post:=x::post) fun z=>by
     rw[mem_ins,hval]
     constructor
     ·rintro((h|h)|h)
      ·exact .inr (.inl h)
      ·exact .inl h
      ·exact .inr (.inr h)
     ·rintro(h|h|h)
      ·exact .inl (.inr h)
      ·exact .inl (.inl h)
      ·exact .inr h)
   have inner:∀(ap:List (List UInt8))(j:Nat)(hj:acc.drop j=ap)(hj0:j≤acc.length)(h1:∀z∈acc.take j,Op.bytesLess z v=true)(T:Env)
    (hT:Has T [(1,.str key),(2,.ptr 0 0),(5,.sl (kD b t) (acc.map .str)),(6,.int .i64 i),(7,.str v),(9,.int .i64 j)]),Goes cfg a161 k161_1 T ⟨[(encSt s).cells],tk,[]⟩ (DomP key acc (x::post)):=by
    intro ap
    induction ap with
    |nil=>
     intro j hj hj0 h1 T hT
     have hge:=drop_ge hj
     have ih':=fin j hj0 h1 (by rw[hj];simp)
     have s1:sliceA 1 (.sl (kD b t) (acc.map AV.str)) none (some (.int .i64 (j:Nat))) none=some (.sl .sh ((acc.take j).map .str)):=slice_to hj0 rfl fun _=>rfl
     have s2:sliceA 1 (.sl (kD b t) (acc.map AV.str)) (some (.int .i64 (j:Nat))) none none=some (.sl .sh ((acc.drop j).map .str)):=slice_from hj0 rfl fun _=>rfl
     have a1:=ins_one (B:=[(encSt s).cells]) (tk:=tk) (acc:=acc) (j:=j) (by omega)
     have a2:=ins_two (B:=[(encSt s).cells]) (tk:=tk) (acc:=acc) (j:=j) (v:=v) (by omega)
     have a3:=ins_three (B:=[(encSt s).cells]) (tk:=tk) (acc:=acc) (j:=j) (v:=v) (by omega)
     exact let ζ1:Heap:={boxes:=[(encSt s).cells],toks:=tk,loops:=[]:Heap};let ζ2:List (List AV):=[[.sl .sh (s.nodes.map encN),.sl .sh (s.pods.map encPd),.sl .sh (s.buds.map encB)]];gG 160 _ hT (.len (lM (kD b t) .str acc)<|.no (dF ((↑j:Int)<(↑acc.length:Int)))<|.ff<|.len (lM (kD b t) .str acc)<|.no (dF ((↑j:Int)<(↑acc.length:Int)))<|.ff<|.slice s1<|.append a1<|.append a2<|.slice s2<|.append a3<|.bin (iI i)<|.cutQ k161_0 [(1,.str key),(2,.ptr 0 0),(5,.sl (SK.own tk.length) (List.map .str (List.take j acc++v::List.drop j acc))),(6,.int .i64 (↑(i+1)))] ({boxes:=ζ2,toks:=tk++[(List.take j acc++v::List.drop j acc).length],loops:=[]:Heap}) (fun T hT=>(ih' T hT)))
    |cons y ap ihj=>
     intro j hj hj0 h1 T hT
     have hltj:=drop_lt hj
     have hnxj:=drop_next hj
     have hyi:idxA 1 (.sl (kD b t) (acc.map AV.str)) (.int .i64 (j:Nat))=some (.ref [.str y]):=idx_row (f:=AV.str) hj rfl
     by_cases hy:Op.bytesLess y v=true
     ·have ih':=ihj (j+1) hnxj hltj (fun z hz=>by
       rw[List.take_add_one,List.mem_append]at hz
       rcases hz with hz|hz
       ·exact h1 z hz
       ·rw[drop_at hj]at hz
        obtain rfl:z=y:=by simpa using hz
        exact hy)
      exact gG 120 _ hT (.len (lM (kD b t) .str acc)<|.yes (dT ((↑j:Int)<(↑acc.length:Int)))<|.idx hyi<|.yes (show(Op.bytesLess y v)=true from(by omega))<|.bin (iI j)<|.cutQ k161_1 [(1,.str key),(2,.ptr 0 0),(5,.sl (kD b t) (List.map .str acc)),(6,.int .i64 ↑i),(7,.str v),(9,.int .i64 (↑(j+(1:Nat)):Int))] ({boxes:=[[.sl .sh (s.nodes.map encN),.sl .sh (s.pods.map encPd),.sl .sh (s.buds.map encB)]],toks:=tk,loops:=[]:Heap}) (fun T hT=>(ih' T hT)))
     ·by_cases hq:y=v
      ·have ih':=fun T hT=>Goes.imp (ih (i+1) hnx (by omega) acc hr (by omega) b t tk T hT) (DomP.conv (acc:=acc) (post:=x::post) fun z=>by
        rw[hval]
        have hm:v∈acc:=by rw[←hq];exact List.mem_of_mem_drop (by rw[hj];simp:y∈acc.drop j)
        constructor
        ·rintro(h|h)
         ·exact .inl h
         ·exact .inr (.inr h)
        ·rintro(h|rfl|h)
         ·exact .inl h
         ·exact .inl hm
         ·exact .inr h)
       exact gG 160 _ hT (.len (lM (kD b t) .str acc)<|.yes (dT ((↑j:Int)<(↑acc.length:Int)))<|.idx hyi<|.no (show(Op.bytesLess y v)=false from Bool.eq_false_iff.2 (by omega))<|.len (lM (kD b t) .str acc)<|.yes (dT ((↑j:Int)<(↑acc.length:Int)))<|.idx hyi<|.yes (show(y==v)=true from(by simp[hq]))<|.bin (iI i)<|.cutQ k161_0 [(1,.str key),(2,.ptr 0 0),(5,.sl (kD b t) (List.map .str acc)),(6,.int .i64 (↑(i+1)))] ({boxes:=[[.sl .sh (s.nodes.map encN),.sl .sh (s.pods.map encPd),.sl .sh (s.buds.map encB)]],toks:=tk,loops:=[]:Heap}) (fun T hT=>(ih' T hT)))
      ·have hvy:Op.bytesLess v y=true:=bl_not (by simp[hy,hq])
       have ih':=fin j hj0 h1 (fun z hz=>by
        rw[hj]at hz
        rcases List.mem_cons.1 hz with rfl|hz
        ·exact hvy
        ·have hr2:Rise (acc.drop j):=hr.sublist (List.drop_sublist _ _)
         rw[hj]at hr2
         exact bl_trans hvy (List.rel_of_pairwise_cons hr2 hz))
       have s1:sliceA 1 (.sl (kD b t) (acc.map AV.str)) none (some (.int .i64 (j:Nat))) none=some (.sl .sh ((acc.take j).map .str)):=slice_to hj0 rfl fun _=>rfl
       have s2:sliceA 1 (.sl (kD b t) (acc.map AV.str)) (some (.int .i64 (j:Nat))) none none=some (.sl .sh ((acc.drop j).map .str)):=slice_from hj0 rfl fun _=>rfl
       have a1:=ins_one (B:=[(encSt s).cells]) (tk:=tk) (acc:=acc) (j:=j) (by omega)
       have a2:=ins_two (B:=[(encSt s).cells]) (tk:=tk) (acc:=acc) (j:=j) (v:=v) (by omega)
       have a3:=ins_three (B:=[(encSt s).cells]) (tk:=tk) (acc:=acc) (j:=j) (v:=v) (by omega)
       exact let ζ1:Heap:={boxes:=[(encSt s).cells],toks:=tk,loops:=[]:Heap};let ζ2:List (List AV):=[[.sl .sh (s.nodes.map encN),.sl .sh (s.pods.map encPd),.sl .sh (s.buds.map encB)]];gG 200 _ hT (.len (lM (kD b t) .str acc)<|.yes (dT ((↑j:Int)<(↑acc.length:Int)))<|.idx hyi<|.no (show(Op.bytesLess y v)=false from Bool.eq_false_iff.2 (by omega))<|.len (lM (kD b t) .str acc)<|.yes (dT ((↑j:Int)<(↑acc.length:Int)))<|.idx hyi<|.no (show(y==v)=false from Bool.eq_false_iff.2 (by simp+zetaDelta [hq]))<|.slice s1<|.append a1<|.append a2<|.slice s2<|.append a3<|.bin (iI i)<|.cutQ k161_0 [(1,.str key),(2,.ptr 0 0),(5,.sl (SK.own tk.length) (List.map .str (List.take j acc++v::List.drop j acc))),(6,.int .i64 (↑(i+1)))] ({boxes:=ζ2,toks:=tk++[(List.take j acc++v::List.drop j acc).length],loops:=[]:Heap}) (fun T hT=>(ih' T hT)))
   have lo:=inner acc 0 rfl (by omega) (by simp)
   exact let ζ1:List AV:=[.sl .sh (x.labels.map encP),.str key];gG 120 _ hT (.len (lM .sh encN s.nodes)<|.yes (dT ((↑i:Int)<(↑s.nodes.length:Int)))<|.idx hxi<|.callK (ζ1) (.tuple [.str v,.bool true]) g<|.ff<|.cutQ k161_1 [(1,.str key),(2,.ptr 0 0),(5,.sl (kD b t) (List.map .str acc)),(6,.int .i64 ↑i),(7,.str v),(9,.int .i64 0)] ({boxes:=[[.sl .sh (s.nodes.map encN),.sl .sh (s.pods.map encPd),.sl .sh (s.buds.map encB)]],toks:=tk,loops:=[]:Heap}) (fun T hT=>(lo T hT)))
theorem domsR(s:St)(key:List UInt8)(hs:s.nodes.length≤500)(hl:∀n∈s.nodes,n.labels.length<9223372036854775807):∃b t,Gives cfg 161 [encSt s,.str key] (.sl (kD b t) ((domsS s key).map .str)):=by
 have h:=dmR_loop s key hs hl s.nodes 0 rfl (Nat.zero_le _) [] (by simp[Rise]) (by simp) false 0 []
 have h:∀T,Has T [(1,.str key),(2,.ptr 0 0),(5,.sl .full []),(6,.int .i64 (0:Nat))]→Goes cfg a161 k161_0 T ⟨[(encSt s).cells],[],[]⟩ (DomP key [] s.nodes):=h
 have key1:Goes cfg a161 [.c c161] (initEnv [encSt s,.str key]) Heap.nil (DomP key [] s.nodes):=by
  exact gG 60 [] trivial (.cutQ k161_0 [(1,.str key),(2,.ptr 0 0),(5,.sl .full []),(6,.int .i64 0)] ({boxes:=[[.sl .sh (s.nodes.map encN),.sl .sh (s.pods.map encPd),.sl .sh (s.buds.map encB)]],toks:=[],loops:=[]:Heap}) (fun T hT=>(h T hT)))
 obtain⟨r,hr,l,h1,h2,b,t,h3⟩:=key1
 have e:l=domsS s key:=rise_ext h1 (namesOf_rise _) fun x=>by rw[h2,domsS,namesOf_mem];simp
 rw[e]at h3
 exact⟨b,t,Gives.run (l161 _ _) ⟨r,hr,h3⟩⟩
end Go.Aa.T
set_option linter.unusedVariables false
set_option linter.unusedSimpArgs false
set_option maxRecDepth 100000
namespace Go.Aa.T
open Go.Aa Go.Proofs
theorem gf27{a b:St}{nm:List UInt8}(h:GivesF cfg 27 [encSt a,.str nm] (encSt b))(H:Heap):Does cfg (.call (.c (.func 27 [])) [.c (encSt a),.c (.str nm)]) H (encSt b) H:=does_callF h rfl rfl H
end Go.Aa.T
set_option linter.unusedVariables false
set_option linter.unusedSimpArgs false
set_option maxRecDepth 100000
namespace Go.Aa.T
open Go.Aa Go.Proofs
theorem gf157{s:St}{key:List UInt8}{l:List AV}(h:GivesF cfg 157 [encSt s,.str key] (.sl .sh l))(H:Heap):Does cfg (.call (.c (.func 157 [])) [.c (encSt s),.c (.str key)]) H (.sl .sh l) H:=does_callF h rfl rfl H
def leastS(f:List UInt8→Nat)(own:List UInt8):List (List UInt8)→Int→Int
 |[],m=>m
 |d::l,m=>leastS f own l (if d=own then m else if(f d:Int)<m then(f d:Int)else m)
def skewS(s:St)(p:Pod)(nm:List UInt8):Int×Bool:=
 if p.key=[]then(0,true)else match domS s nm p.key with
 |none=>(0,false)
 |some own=>((countS s p own:Int)+1-leastS (countS s p) own (domsS s p.key) ((countS s p own:Int)+1),true)
theorem sk_loop(s:St)(p:Pod)(nm own:List UInt8)(ds:List (List UInt8))(hc:∀d,Gives cfg 156 [encSt s,encPd p,.str d] (.int .i64 (countS s p d)))(here:Int)(hh:0≤here∧here≤100000)(hn:ds.length≤1000):
 ∀(post:List (List UInt8))(i:Nat)(hd:ds.drop i=post)(m:Int)(hm:0≤m)(hm2:m≤100000)(T:Env)
 (hT:Has T [(0,.ptr 0 0),(2,.ptr 1 0),(3,.ptr 3 0),(4,.str own),(5,.int .i64 here),(6,.int .i64 m),(23,.sl .sh (ds.map .str)),(24,.int .i64 ds.length),(25,.int .i64 i)]),
 Goes cfg a154 k154_0 T ⟨[(encSt s).cells,(encPd p).cells,[.str nm],[.int .i64 0]],[],[]⟩ (fun r=>r=(.ret (.tuple []),⟨[(encSt s).cells,(encPd p).cells,[.str nm],[.int .i64 (here-leastS (countS s p) own post m)]],[],[]⟩)):=by
 intro post
 induction post with
 |nil=>
  intro i hd m hm hm2 T hT
  have hge:=drop_ge hd
  rw[show leastS (countS s p) own [] m=m from rfl]
  have sb:binA .sub (.int .i64 here) (.int .i64 m)=some (.int .i64 (here-m)):=subI (by omega) (by omega)
  exact gG 60 _ hT (.no (dF ((↑i:Int)<(↑ds.length:Int)))<|.bin sb<|.fin ((.ret (.tuple []),{boxes:=[[.sl .sh (s.nodes.map encN),.sl .sh (s.pods.map encPd),.sl .sh (s.buds.map encB)],[.str p.name,.str p.owner,.int .i64 p.prio,.sl .sh (p.need.map encA),.sl .sh (p.labels.map encP),.sl .sh (p.sel.map encM),.sl .sh (p.tols.map encL),.str p.key,.int .i64 p.most,.str p.node,.bool p.hold],[.str nm],[.int .i64 (here-m)]],toks:=[],loops:=[]:Heap})) rfl)
 |cons d post ih=>
  intro i hd m hm hm2 T hT
  have hlt:=drop_lt hd
  have hnx:=drop_next hd
  have hxi:idxA 1 (.sl .sh (ds.map .str)) (.int .i64 (i:Nat))=some (.ref [.str d]):=idx_row (f:=AV.str) hd rfl
  by_cases h:d=own
  ·have e:leastS (countS s p) own (d::post) m=leastS (countS s p) own post m:=by simp only[leastS,if_pos h]
   rw[e]
   have ih':=ih (i+1) hnx m hm hm2
   subst h
   exact gG 120 _ hT (.yes (dT ((↑i:Int)<(↑ds.length:Int)))<|.idx hxi<|.no (show(!d==d)=false from by have hh:(d==d)=true:=(by simp);simp[hh])<|.bin (iI i)<|.cutQ k154_0 [(0,.ptr 0 0),(2,.ptr 1 0),(3,.ptr 3 0),(4,.str d),(5,.int .i64 here),(6,.int .i64 m),(23,.sl .sh (List.map .str ds)),(24,.int .i64 (↑ds.length)),(25,.int .i64 (↑(i+1)))] ({boxes:=[[.sl .sh (s.nodes.map encN),.sl .sh (s.pods.map encPd),.sl .sh (s.buds.map encB)],[.str p.name,.str p.owner,.int .i64 p.prio,.sl .sh (p.need.map encA),.sl .sh (p.labels.map encP),.sl .sh (p.sel.map encM),.sl .sh (p.tols.map encL),.str p.key,.int .i64 p.most,.str p.node,.bool p.hold],[.str nm],[.int .i64 0]],toks:=[],loops:=[]:Heap}) (fun T hT=>(ih' T hT)))
  ·have hcd:=hc d
   generalize hq:countS s p d=c at hcd
   have e:leastS (countS s p) own (d::post) m=leastS (countS s p) own post (if(c:Int)<m then(c:Int)else m):=by simp only[leastS,if_neg h,hq]
   rw[e]
   have ih':=ih (i+1) hnx (if(c:Int)<m then(c:Int)else m) (by split<;>omega) (by split<;>omega)
   have ih':∀T,Has T [(0,.ptr 0 0),(2,.ptr 1 0),(3,.ptr 3 0),(4,.str own),(5,.int .i64 here),(6,.int .i64 (if false=true then(if(c:Int)>m then(c:Int)else m)else if(c:Int)<m then(c:Int)else m)),(23,.sl .sh (ds.map .str)),(24,.int .i64 ds.length),(25,.int .i64 ((i+1:Nat):Int))]→_:=ih'
   exact let ζ1:List AV:=[.str p.name,.str p.owner,.int .i64 p.prio,.sl .sh (p.need.map encA),.sl .sh (p.labels.map encP),.sl .sh (p.sel.map encM),.sl .sh (p.tols.map encL),.str p.key,.int .i64 p.most,.str p.node,.bool p.hold];let ζ2:List AV:=[.sl .sh (s.nodes.map encN),.sl .sh (s.pods.map encPd),.sl .sh (s.buds.map encB)];gG 120 _ hT (.yes (dT ((↑i:Int)<(↑ds.length:Int)))<|.idx hxi<|.yes (show(!d==own)=true from by have hh:¬((d==own)=true):=(by simpa using h);simp[hh])<|.callI hcd<|.bin (iI i)<|.cutQ k154_0 [(0,.ptr 0 0),(2,.ptr 1 0),(3,.ptr 3 0),(4,.str own),(5,.int .i64 here),(6,.int .i64 (if false=true then if(↑c:Int)>m then(↑c:Int)else m else if(↑c:Int)<m then(↑c:Int)else m)),(23,.sl .sh (List.map .str ds)),(24,.int .i64 (↑ds.length)),(25,.int .i64 (↑(i+1)))] ({boxes:=[ζ2,ζ1,[.str nm],[.int .i64 0]],toks:=[],loops:=[]:Heap}) (fun T hT=>(ih' T hT)))
theorem doms_len(s:St)(key:List UInt8):(domsS s key).length≤s.nodes.length:=by
 have h1:=vals_len key s.nodes
 have h2:=uq_len (isort (valsOf key s.nodes))
 rw[isort_length]at h2
 unfold domsS namesOf
 omega
theorem sk_all(s:St)(p:Pod)(nm:List UInt8)(hp:s.pods.length≤1000)(hs:s.nodes.length≤1000)(hl:∀n∈s.nodes,n.labels.length<9223372036854775807)(hk:¬p.key=[]):
 ∃e H1,Goes cfg a154 [.c c154] (initEnv [.ptr 0 0,.ptr 2 0,.ptr 1 0,.ptr 3 0]) ⟨[(encSt s).cells,(encPd p).cells,[.str nm],[.int .i64 0]],[],[]⟩ (fun r=>((e=0∧r.1=.ret (.tuple []))∨(e≠0∧r.1=.pan (stopV e)))∧r.2=H1∧trunc 4 0 (.int .i64 e) H1=⟨[(encSt s).cells,(encPd p).cells,[.str nm],[.int .i64 (skewS s p nm).1]],[],[]⟩)∧(skewS s p nm).2=decide (e=0):=by
 cases hd:domS s nm p.key with
 |none=>
  have hn:=dom_none s nm p.key (by omega) hl hd
  have e1:skewS s p nm=(0,false):=by unfold skewS;rw[if_neg hk,hd]
  rw[e1]
  refine⟨10,⟨[(encSt s).cells,(encPd p).cells,[.str nm],[.int .i64 0]],[],[]⟩,?_,rfl⟩
  exact let ζ1:List AV:=[.sl .sh (s.nodes.map encN),.sl .sh (s.pods.map encPd),.sl .sh (s.buds.map encB)];gG 90 [] trivial (.callP ([.agg ζ1,.str nm,.str p.key]) ({boxes:=[ζ1,[.str p.name,.str p.owner,.int .i64 p.prio,.sl .sh (p.need.map encA),.sl .sh (p.labels.map encP),.sl .sh (p.sel.map encM),.sl .sh (p.tols.map encL),.str p.key,.int .i64 p.most,.str p.node,.bool p.hold],[.str nm],[.int .i64 0]],toks:=[],loops:=[]:Heap}) hn ⟨rfl,rfl⟩ rfl (by exact⟨.inr ⟨by decide,rfl⟩,rfl,trunc_self⟩))
 |some own=>
  have hy:=dom_some s nm p.key own (by omega) hl hd
  have hc:=fun d=>count_any s p d hp (by omega) hl
  have hcl:countS s p own≤s.pods.length:=List.length_filter_le _ _
  have e1:skewS s p nm=((countS s p own:Int)+1-leastS (countS s p) own (domsS s p.key) ((countS s p own:Int)+1),true):=by unfold skewS;rw[if_neg hk,hd]
  rw[e1]
  have dl:=doms_len s p.key
  have ds:=doms_any s p.key hs hl
  have hco:=hc own
  have lo:=sk_loop s p nm own (domsS s p.key) hc ((countS s p own:Int)+1) (by omega) (by omega) (domsS s p.key) 0 rfl ((countS s p own:Int)+1) (by omega) (by omega)
  refine⟨0,⟨[(encSt s).cells,(encPd p).cells,[.str nm],[.int .i64 ((countS s p own:Int)+1-leastS (countS s p) own (domsS s p.key) ((countS s p own:Int)+1))]],[],[]⟩,?_,rfl⟩
  have key:Goes cfg a154 [.c c154] (initEnv [.ptr 0 0,.ptr 2 0,.ptr 1 0,.ptr 3 0]) ⟨[(encSt s).cells,(encPd p).cells,[.str nm],[.int .i64 0]],[],[]⟩ (fun r=>r=(.ret (.tuple []),⟨[(encSt s).cells,(encPd p).cells,[.str nm],[.int .i64 ((countS s p own:Int)+1-leastS (countS s p) own (domsS s p.key) ((countS s p own:Int)+1))]],[],[]⟩)):=by
   generalize leastS (countS s p) own (domsS s p.key) ((countS s p own:Int)+1)=le at lo⊢
   generalize domsS s p.key=dd at*
   generalize countS s p own=c at*
   have ad:binA .add (.int .i64 (c:Int)) (.int .i64 1)=some (.int .i64 ((c:Int)+1)):=addI (by omega) (by omega)
   exact let ζ2:List AV:=[.sl .sh (s.nodes.map encN),.sl .sh (s.pods.map encPd),.sl .sh (s.buds.map encB)];let ζ1:Heap:={boxes:=[ζ2,[.str p.name,.str p.owner,.int .i64 p.prio,.sl .sh (p.need.map encA),.sl .sh (p.labels.map encP),.sl .sh (p.sel.map encM),.sl .sh (p.tols.map encL),.str p.key,.int .i64 p.most,.str p.node,.bool p.hold],[.str nm],[.int .i64 0]],toks:=[],loops:=[]:Heap};gG 90 [] trivial (.callI hy<|.callI hco<|.bin ad<|.effY (show Does cfg (.call (.c (.func (157:FuncId) [])) [.c (encSt s),.c (.str p.key)]) ζ1 (.sl .sh (List.map .str dd)) ζ1 from gf157 ds _)<|.len (lM .sh .str dd)<|.cutQ k154_0 [(0,.ptr 0 0),(2,.ptr 1 0),(3,.ptr 3 0),(4,.str own),(5,.int .i64 ((↑c:Int)+(1:Int))),(6,.int .i64 ((↑c:Int)+(1:Int))),(23,.sl .sh (List.map .str dd)),(24,.int .i64 (↑dd.length)),(25,.int .i64 0)] (ζ1) (fun T hT=>(lo T hT)))
  exact Goes.imp key fun r hr=>by subst hr;exact⟨.inl ⟨rfl,rfl⟩,rfl,trunc_self⟩
theorem skew_any(s:St)(p:Pod)(nm:List UInt8)(hp:s.pods.length≤1000)(hs:s.nodes.length≤1000)(hl:∀n∈s.nodes,n.labels.length<9223372036854775807):
 Gives cfg 83 [encSt s,encPd p,.str nm] (.tuple [.int .i64 (skewS s p nm).1,.bool (skewS s p nm).2]):=by
 by_cases hk:p.key=[]
 ·have e:skewS s p nm=(0,true):=by unfold skewS;rw[if_pos hk]
  rw[e]
  refine Gives.run (l83 _ _) ?_
  exact gG 60 [] trivial (.yes (show(p.key==[])=true from(by simp[hk]))<|.fin ((.ret (.tuple [.int .i64 0,.bool true]),{boxes:=[[.sl .sh (s.nodes.map encN),.sl .sh (s.pods.map encPd),.sl .sh (s.buds.map encB)],[.str p.name,.str p.owner,.int .i64 p.prio,.sl .sh (p.need.map encA),.sl .sh (p.labels.map encP),.sl .sh (p.sel.map encM),.sl .sh (p.tols.map encL),.str p.key,.int .i64 p.most,.str p.node,.bool p.hold],[.str nm]],toks:=[],loops:=[]:Heap})) rfl)
 ·refine Gives.run (l83 _ _) ?_
  obtain⟨e,H1,⟨⟨a,H2⟩,hr,hR,hH,ht2⟩,h2⟩:=sk_all s p nm hp hs hl hk
  simp only at hH
  subst hH
  rw[h2]
  have ht:lim cfg (.fn 77) [.func 154 [.ptr 0 0,.ptr 2 0,.ptr 1 0,.ptr 3 0]] ⟨[(encSt s).cells,(encPd p).cells,[.str nm],[.int .i64 0]],[],[]⟩=some (.ret (.int .i64 e),H2):=by
   rw[lim_try rfl,l154,hr]
   rcases hR with⟨h0,h1⟩|⟨h0,h1⟩
   ·simp only at h1;subst h1;subst h0;rfl
   ·simp only at h1;subst h1;rfl
  have hd:=does_callE (xs:=[.func 154 [.ptr 0 0,.ptr 2 0,.ptr 1 0,.ptr 3 0]]) (caps:=[]) ht rfl rfl
  rw[show shutA (.int .i64 e)=.int .i64 e from rfl,show trunc (⟨[(encSt s).cells,(encPd p).cells,[.str nm],[.int .i64 0]],[],[]⟩:Heap).boxes.length (⟨[(encSt s).cells,(encPd p).cells,[.str nm],[.int .i64 0]],[],[]⟩:Heap).toks.length (.int .i64 e) H2=⟨[(encSt s).cells,(encPd p).cells,[.str nm],[.int .i64 (skewS s p nm).1]],[],[]⟩from ht2]at hd
  generalize(skewS s p nm).1=sk at hd⊢
  exact gG 120 [] trivial (.no (show(p.key==[])=false from Bool.eq_false_iff.2 (by simp[hk]))<|.effY hd<|.fin ((.ret (.tuple [.int .i64 sk,.bool (e==(0:Int))]),{boxes:=[[.sl .sh (s.nodes.map encN),.sl .sh (s.pods.map encPd),.sl .sh (s.buds.map encB)],[.str p.name,.str p.owner,.int .i64 p.prio,.sl .sh (p.need.map encA),.sl .sh (p.labels.map encP),.sl .sh (p.sel.map encM),.sl .sh (p.tols.map encL),.str p.key,.int .i64 p.most,.str p.node,.bool p.hold],[.str nm],[.int .i64 sk]],toks:=[],loops:=[]:Heap})) rfl)
end Go.Aa.T
set_option linter.unusedVariables false
set_option linter.unusedSimpArgs false
set_option maxRecDepth 100000
namespace Go.Aa.T
open Go.Aa Go.Proofs
theorem must_ok(e:Int):Gives cfg 80 [.bool true,.int .i64 e] (.tuple []):=by
 refine Gives.run (l80 _ _) ?_
 exact gG 60 [] trivial (.ff<|.fin ((.ret (.tuple []),{boxes:=[],toks:=[],loops:=[]:Heap})) rfl)
theorem must_no{e:Int}(he:¬e=0):Pans cfg 80 [.bool false,.int .i64 e] (stopV e):=by
 have h:=stop_pan he
 refine Pans.run (l80 _ _) ?_
 exact gG 60 [] trivial (.tt<|.callP ([.int .i64 e]) ({boxes:=[],toks:=[],loops:=[]:Heap}) h ⟨rfl,rfl⟩ rfl rfl)
theorem freeS_len(s:St)(hs:StIn s)(nd:List UInt8):(freeS s nd).1.length≤8:=by
 unfold freeS freeG
 split
 ·refine(subV_rg ?_).2
  unfold capOf
  split
  ·exact fun x hx=>by cases hx
  ·rename_i n hf;exact(hs.cap n (findG_mem hf)).rg
 ·simp
theorem drop_inF{s:St}(h:StIn s)(nm:List UInt8):StIn (dropS s nm):=by
 have l:=off_len nm s.pods
 exact⟨h.nodes,by show(offP nm s.pods).length≤_;have:=h.pods;omega,h.cap,fun p hp=>h.need p (off_mem hp).1⟩
def fitG(s:St)(p:Pod)(nm:List UInt8)(sk:Int)(ok:Bool):Int:=match findG Node.name s.nodes nm with
 |none=>3
 |some n=>if(!n.cordon&&matchB n.labels p.sel)=true then(if(worstB p.tols n.taints).isSome=true then 9 else
   (if(ok&&(p.key==[]||decide (sk≤p.most)))=true then(if(decide ((freeS s nm).2=0)&&fitsV p.need (freeS s nm).1)=true then 0 else 7)else 10))else 8
structure PdIn(p:Pod):Prop where
 need:p.need.length<9223372036854775807
 labels:p.labels.length<9223372036854775807
 sel:p.sel.length<9223372036854775807
 tols:p.tols.length<9223372036854775807
structure NdIn(n:Node):Prop where
 labels:n.labels.length<9223372036854775807
 taints:n.taints.length<9223372036854775807
theorem fit_all(s:St)(hs:StIn s)(hn:∀n∈s.nodes,NdIn n)(p:Pod)(hp:PdIn p)(nm:List UInt8)(sk:Int)(ok:Bool)
 (h83:Gives cfg 83 [encSt s,encPd p,.str nm] (.tuple [.int .i64 sk,.bool ok])):
 Goes cfg a78 [.c c78] (initEnv [.ptr 0 0,.ptr 2 0,.ptr 1 0]) ⟨[(encSt s).cells,(encPd p).cells,[.str nm]],[],[]⟩ (ChkR (fitG s p nm sk ok)):=by
 have f:=findN_any s.nodes nm hs.nodes
 unfold fitG
 cases hf:findG Node.name s.nodes nm with
 |none=>
  rw[hf]at f
  simp only
  have m3:Pans cfg 80 [.bool false,.int .i64 3] (stopV 3):=must_no (by decide)
  exact let ζ1:List AV:=[.str [],.sl .sh [],.sl .sh [],.sl .sh [],.bool false];let ζ2:List AV:=[.sl .sh (s.nodes.map encN),.str nm];gG 120 [] trivial (.callK (ζ2) (.tuple [.agg ζ1,.bool false]) f<|.callP ([.bool false,.int .i64 3]) ({boxes:=[[.sl .sh (s.nodes.map encN),.sl .sh (s.pods.map encPd),.sl .sh (s.buds.map encB)],[.str p.name,.str p.owner,.int .i64 p.prio,.sl .sh (p.need.map encA),.sl .sh (p.labels.map encP),.sl .sh (p.sel.map encM),.sl .sh (p.tols.map encL),.str p.key,.int .i64 p.most,.str p.node,.bool p.hold],[.str nm],ζ1],toks:=[],loops:=[]:Heap}) m3 ⟨rfl,rfl⟩ rfl (by exact .inr ⟨by decide,rfl⟩))
 |some n=>
  rw[hf]at f
  have hni:=hn n (findG_mem hf)
  have mt:=match_any n.labels p.sel hni.labels hp.sel
  have m8:Pans cfg 80 [.bool false,.int .i64 8] (stopV 8):=must_no (by decide)
  simp only
  cases hc:n.cordon with
  |true=>
   rw[if_neg (by simp)]
   exact let ζ1:List AV:=[.str n.name,.sl .sh (n.cap.map encA),.sl .sh (n.labels.map encP),.sl .sh (n.taints.map encT),.bool n.cordon];let ζ2:List AV:=[.sl .sh (s.nodes.map encN),.str nm];gG 160 [] trivial (.callK (ζ2) (.tuple [.agg ζ1,.bool true]) f<|.callI (show Gives cfg (80:FuncId) [.bool true,.int .i64 3] (.tuple [])from must_ok _)<|.no (show(!n.cordon)=false from by have hh:n.cordon=true:=(by exact hc);simp[hh])<|.callP ([.bool false,.int .i64 8]) ({boxes:=[[.sl .sh (s.nodes.map encN),.sl .sh (s.pods.map encPd),.sl .sh (s.buds.map encB)],[.str p.name,.str p.owner,.int .i64 p.prio,.sl .sh (p.need.map encA),.sl .sh (p.labels.map encP),.sl .sh (p.sel.map encM),.sl .sh (p.tols.map encL),.str p.key,.int .i64 p.most,.str p.node,.bool p.hold],[.str nm],ζ1],toks:=[],loops:=[]:Heap}) m8 ⟨rfl,rfl⟩ rfl (by exact .inr ⟨by decide,rfl⟩))
  |false=>
   cases hm:matchB n.labels p.sel with
   |false=>
    rw[hm]at mt
    rw[if_neg (by simp)]
    exact let ζ1:List AV:=[.str n.name,.sl .sh (n.cap.map encA),.sl .sh (n.labels.map encP),.sl .sh (n.taints.map encT),.bool n.cordon];let ζ2:List AV:=[.sl .sh (p.sel.map encM),.sl .sh (n.labels.map encP)];let ζ3:List AV:=[.sl .sh (s.nodes.map encN),.str nm];gG 160 [] trivial (.callK (ζ3) (.tuple [.agg ζ1,.bool true]) f<|.callI (show Gives cfg (80:FuncId) [.bool true,.int .i64 3] (.tuple [])from must_ok _)<|.yes (show(!n.cordon)=true from by have hh:¬(n.cordon=true):=(by simp+zetaDelta [hc]);simp[hh])<|.callK (ζ2) (.bool false) mt<|.callP ([.bool false,.int .i64 8]) ({boxes:=[[.sl .sh (s.nodes.map encN),.sl .sh (s.pods.map encPd),.sl .sh (s.buds.map encB)],[.str p.name,.str p.owner,.int .i64 p.prio,.sl .sh (p.need.map encA),.sl .sh (p.labels.map encP),.sl .sh (p.sel.map encM),.sl .sh (p.tols.map encL),.str p.key,.int .i64 p.most,.str p.node,.bool p.hold],[.str nm],ζ1],toks:=[],loops:=[]:Heap}) m8 ⟨rfl,rfl⟩ rfl (by exact .inr ⟨by decide,rfl⟩))
   |true=>
    rw[hm]at mt
    rw[if_pos (by simp)]
    have w:=worst_any p.tols n.taints hp.tols hni.taints
    cases hw:worstB p.tols n.taints with
    |some x=>
     rw[hw]at w
     have w:Gives cfg 82 [.sl .sh (p.tols.map encL),.sl .sh (n.taints.map encT)] (.tuple [encT x,.bool true]):=w
     rw[if_pos (show(some x).isSome=true from rfl)]
     have m9:Pans cfg 80 [.bool false,.int .i64 9] (stopV 9):=must_no (by decide)
     exact let ζ1:List AV:=[.str n.name,.sl .sh (n.cap.map encA),.sl .sh (n.labels.map encP),.sl .sh (n.taints.map encT),.bool n.cordon];let ζ2:List AV:=[.sl .sh (p.tols.map encL),.sl .sh (n.taints.map encT)];let ζ3:List AV:=[.sl .sh (p.sel.map encM),.sl .sh (n.labels.map encP)];let ζ4:List AV:=[.sl .sh (s.nodes.map encN),.str nm];let ζ5:List AV:=[.str x.key,.str x.val,.bool x.hard];gG 160 [] trivial (.callK (ζ4) (.tuple [.agg ζ1,.bool true]) f<|.callI (show Gives cfg (80:FuncId) [.bool true,.int .i64 3] (.tuple [])from must_ok _)<|.yes (show(!n.cordon)=true from by have hh:¬(n.cordon=true):=(by simp+zetaDelta [hc]);simp[hh])<|.callK (ζ3) (.bool true) mt<|.callI (show Gives cfg (80:FuncId) [.bool true,.int .i64 8] (.tuple [])from must_ok _)<|.callK (ζ2) (.tuple [.agg ζ5,.bool true]) w<|.callP ([.bool !true,.int .i64 9]) ({boxes:=[[.sl .sh (s.nodes.map encN),.sl .sh (s.pods.map encPd),.sl .sh (s.buds.map encB)],[.str p.name,.str p.owner,.int .i64 p.prio,.sl .sh (p.need.map encA),.sl .sh (p.labels.map encP),.sl .sh (p.sel.map encM),.sl .sh (p.tols.map encL),.str p.key,.int .i64 p.most,.str p.node,.bool p.hold],[.str nm],ζ1,ζ5],toks:=[],loops:=[]:Heap}) m9 ⟨rfl,rfl⟩ rfl (by exact .inr ⟨by decide,rfl⟩))
    |none=>
     rw[hw]at w
     have w:Gives cfg 82 [.sl .sh (p.tols.map encL),.sl .sh (n.taints.map encT)] (.tuple [encT noT,.bool false]):=w
     rw[if_neg (by simp)]
     have m10:Pans cfg 80 [.bool false,.int .i64 10] (stopV 10):=must_no (by decide)
     have m7:Pans cfg 80 [.bool false,.int .i64 7] (stopV 7):=must_no (by decide)
     obtain⟨c,fr⟩:=free_any s nm hs
     have fi:=freeS_len s hs nm
     have ft:=fits_any p.need (freeS s nm).1 hp.need (by omega)
     generalize freeS s nm=u at fr ft fi⊢
     obtain⟨u,e⟩:=u
     have fr:Gives cfg 37 [encSt s,.str nm] (resW c u e):=fr
     have ft:Gives cfg 58 [.sl .sh (p.need.map encA),.sl .sh (u.map encA)] (.bool (fitsV p.need u)):=ft
     simp only
     generalize fitsV p.need u=b at ft⊢
     cases ok with
     |false=>
      rw[if_neg (by simp)]
      exact let ζ1:List AV:=[.str p.name,.str p.owner,.int .i64 p.prio,.sl .sh (p.need.map encA),.sl .sh (p.labels.map encP),.sl .sh (p.sel.map encM),.sl .sh (p.tols.map encL),.str p.key,.int .i64 p.most,.str p.node,.bool p.hold];let ζ2:List AV:=[.str n.name,.sl .sh (n.cap.map encA),.sl .sh (n.labels.map encP),.sl .sh (n.taints.map encT),.bool n.cordon];let ζ3:List AV:=[.sl .sh (s.nodes.map encN),.sl .sh (s.pods.map encPd),.sl .sh (s.buds.map encB)];let ζ4:List AV:=[.sl .sh (p.tols.map encL),.sl .sh (n.taints.map encT)];let ζ5:List AV:=[.sl .sh (p.sel.map encM),.sl .sh (n.labels.map encP)];let ζ6:List AV:=[.sl .sh (s.nodes.map encN),.str nm];let ζ7:List AV:=[.str [],.str [],.bool noT.hard];gG 200 [] trivial (.callK (ζ6) (.tuple [.agg ζ2,.bool true]) f<|.callI (show Gives cfg (80:FuncId) [.bool true,.int .i64 3] (.tuple [])from must_ok _)<|.yes (show(!n.cordon)=true from by have hh:¬(n.cordon=true):=(by simp+zetaDelta [hc]);simp[hh])<|.callK (ζ5) (.bool true) mt<|.callI (show Gives cfg (80:FuncId) [.bool true,.int .i64 8] (.tuple [])from must_ok _)<|.callK (ζ4) (.tuple [.agg ζ7,.bool false]) w<|.callK ([.bool !false,.int .i64 9]) (.tuple []) (show Gives cfg (80:FuncId) [.bool true,.int .i64 9] (.tuple [])from must_ok _)<|.callI h83<|.ff<|.callP ([.bool false,.int .i64 10]) ({boxes:=[ζ3,ζ1,[.str nm],ζ2,ζ7],toks:=[],loops:=[]:Heap}) m10 ⟨rfl,rfl⟩ rfl (by exact .inr ⟨by decide,rfl⟩))
     |true=>
      by_cases hk:p.key=[]
      ·rw[if_pos (by simp[hk])]
       by_cases he:e=0
       ·cases b with
        |true=>
         rw[if_pos (by simp[he])]
         exact let ζ1:List AV:=[.str p.name,.str p.owner,.int .i64 p.prio,.sl .sh (p.need.map encA),.sl .sh (p.labels.map encP),.sl .sh (p.sel.map encM),.sl .sh (p.tols.map encL),.str p.key,.int .i64 p.most,.str p.node,.bool p.hold];let ζ2:List AV:=[.sl .sh (s.nodes.map encN),.sl .sh (s.pods.map encPd),.sl .sh (s.buds.map encB)];let ζ3:List AV:=[.str n.name,.sl .sh (n.cap.map encA),.sl .sh (n.labels.map encP),.sl .sh (n.taints.map encT),.bool n.cordon];let ζ4:List AV:=[.sl .sh (p.tols.map encL),.sl .sh (n.taints.map encT)];let ζ5:List AV:=[.sl .sh (p.sel.map encM),.sl .sh (n.labels.map encP)];let ζ6:List AV:=[.sl .sh (p.need.map encA),.sl .sh (u.map encA)];let ζ7:List AV:=[.sl .sh (s.nodes.map encN),.str nm];let ζ8:List AV:=[.str [],.str [],.bool noT.hard];gG 240 [] trivial (.callK (ζ7) (.tuple [.agg ζ3,.bool true]) f<|.callI (show Gives cfg (80:FuncId) [.bool true,.int .i64 3] (.tuple [])from must_ok _)<|.yes (show(!n.cordon)=true from by have hh:¬(n.cordon=true):=(by simp+zetaDelta [hc]);simp[hh])<|.callK (ζ5) (.bool true) mt<|.callI (show Gives cfg (80:FuncId) [.bool true,.int .i64 8] (.tuple [])from must_ok _)<|.callK (ζ4) (.tuple [.agg ζ8,.bool false]) w<|.callK ([.bool !false,.int .i64 9]) (.tuple []) (show Gives cfg (80:FuncId) [.bool true,.int .i64 9] (.tuple [])from must_ok _)<|.callI h83<|.tt<|.yes (show(p.key==[])=true from(by simp+zetaDelta [hk]))<|.callI (show Gives cfg (80:FuncId) [.bool true,.int .i64 10] (.tuple [])from must_ok _)<|.callG ([.agg ζ2,.str nm]) (.tuple [.sl .sh (u.map encA),.int .i64 e]) fr ⟨rfl,rfl⟩ Res.p<|.yes (show(e==(0:Int))=true from(by simp+zetaDelta [he]))<|.callK (ζ6) (.bool true) ft<|.callI (show Gives cfg (80:FuncId) [.bool true,.int .i64 7] (.tuple [])from must_ok _)<|.fin ((.ret (.tuple []),{boxes:=[ζ2,ζ1,[.str nm],ζ3,ζ8],toks:=[],loops:=[]:Heap})) (by exact .inl ⟨rfl,rfl⟩))
        |false=>
         rw[if_neg (by simp)]
         exact let ζ1:List AV:=[.str p.name,.str p.owner,.int .i64 p.prio,.sl .sh (p.need.map encA),.sl .sh (p.labels.map encP),.sl .sh (p.sel.map encM),.sl .sh (p.tols.map encL),.str p.key,.int .i64 p.most,.str p.node,.bool p.hold];let ζ2:List AV:=[.sl .sh (s.nodes.map encN),.sl .sh (s.pods.map encPd),.sl .sh (s.buds.map encB)];let ζ3:List AV:=[.str n.name,.sl .sh (n.cap.map encA),.sl .sh (n.labels.map encP),.sl .sh (n.taints.map encT),.bool n.cordon];let ζ4:List AV:=[.sl .sh (p.tols.map encL),.sl .sh (n.taints.map encT)];let ζ5:List AV:=[.sl .sh (p.sel.map encM),.sl .sh (n.labels.map encP)];let ζ6:List AV:=[.sl .sh (p.need.map encA),.sl .sh (u.map encA)];let ζ7:List AV:=[.sl .sh (s.nodes.map encN),.str nm];let ζ8:List AV:=[.str [],.str [],.bool noT.hard];gG 240 [] trivial (.callK (ζ7) (.tuple [.agg ζ3,.bool true]) f<|.callI (show Gives cfg (80:FuncId) [.bool true,.int .i64 3] (.tuple [])from must_ok _)<|.yes (show(!n.cordon)=true from by have hh:¬(n.cordon=true):=(by simp+zetaDelta [hc]);simp[hh])<|.callK (ζ5) (.bool true) mt<|.callI (show Gives cfg (80:FuncId) [.bool true,.int .i64 8] (.tuple [])from must_ok _)<|.callK (ζ4) (.tuple [.agg ζ8,.bool false]) w<|.callK ([.bool !false,.int .i64 9]) (.tuple []) (show Gives cfg (80:FuncId) [.bool true,.int .i64 9] (.tuple [])from must_ok _)<|.callI h83<|.tt<|.yes (show(p.key==[])=true from(by simp+zetaDelta [hk]))<|.callI (show Gives cfg (80:FuncId) [.bool true,.int .i64 10] (.tuple [])from must_ok _)<|.callG ([.agg ζ2,.str nm]) (.tuple [.sl .sh (u.map encA),.int .i64 e]) fr ⟨rfl,rfl⟩ Res.p<|.yes (show(e==(0:Int))=true from(by simp+zetaDelta [he]))<|.callK (ζ6) (.bool false) ft<|.callP ([.bool false,.int .i64 7]) ({boxes:=[ζ2,ζ1,[.str nm],ζ3,ζ8],toks:=[],loops:=[]:Heap}) m7 ⟨rfl,rfl⟩ rfl (by exact .inr ⟨by decide,rfl⟩))
       ·rw[if_neg (by simp[he])]
        exact let ζ1:List AV:=[.str p.name,.str p.owner,.int .i64 p.prio,.sl .sh (p.need.map encA),.sl .sh (p.labels.map encP),.sl .sh (p.sel.map encM),.sl .sh (p.tols.map encL),.str p.key,.int .i64 p.most,.str p.node,.bool p.hold];let ζ2:List AV:=[.sl .sh (s.nodes.map encN),.sl .sh (s.pods.map encPd),.sl .sh (s.buds.map encB)];let ζ3:List AV:=[.str n.name,.sl .sh (n.cap.map encA),.sl .sh (n.labels.map encP),.sl .sh (n.taints.map encT),.bool n.cordon];let ζ4:List AV:=[.sl .sh (p.tols.map encL),.sl .sh (n.taints.map encT)];let ζ5:List AV:=[.sl .sh (p.sel.map encM),.sl .sh (n.labels.map encP)];let ζ6:List AV:=[.sl .sh (s.nodes.map encN),.str nm];let ζ7:List AV:=[.str [],.str [],.bool noT.hard];gG 240 [] trivial (.callK (ζ6) (.tuple [.agg ζ3,.bool true]) f<|.callI (show Gives cfg (80:FuncId) [.bool true,.int .i64 3] (.tuple [])from must_ok _)<|.yes (show(!n.cordon)=true from by have hh:¬(n.cordon=true):=(by simp+zetaDelta [hc]);simp[hh])<|.callK (ζ5) (.bool true) mt<|.callI (show Gives cfg (80:FuncId) [.bool true,.int .i64 8] (.tuple [])from must_ok _)<|.callK (ζ4) (.tuple [.agg ζ7,.bool false]) w<|.callK ([.bool !false,.int .i64 9]) (.tuple []) (show Gives cfg (80:FuncId) [.bool true,.int .i64 9] (.tuple [])from must_ok _)<|.callI h83<|.tt<|.yes (show(p.key==[])=true from(by simp+zetaDelta [hk]))<|.callI (show Gives cfg (80:FuncId) [.bool true,.int .i64 10] (.tuple [])from must_ok _)<|.callG ([.agg ζ2,.str nm]) (.tuple [.sl .sh (u.map encA),.int .i64 e]) fr ⟨rfl,rfl⟩ Res.p<|.no (show(e==(0:Int))=false from Bool.eq_false_iff.2 (by simp+zetaDelta [he]))<|.callP ([.bool false,.int .i64 7]) ({boxes:=[ζ2,ζ1,[.str nm],ζ3,ζ7],toks:=[],loops:=[]:Heap}) m7 ⟨rfl,rfl⟩ rfl (by exact .inr ⟨by decide,rfl⟩))
      ·by_cases hq:sk≤p.most
       ·have mq:Gives cfg 80 [.bool (decide (sk≤p.most)),.int .i64 10] (.tuple []):=by
         rw[show decide (sk≤p.most)=true by simpa using hq];exact must_ok 10
        rw[if_pos (by simp[hq])]
        by_cases he:e=0
        ·cases b with
         |true=>
          rw[if_pos (by simp[he])]
          exact let ζ1:List AV:=[.str p.name,.str p.owner,.int .i64 p.prio,.sl .sh (p.need.map encA),.sl .sh (p.labels.map encP),.sl .sh (p.sel.map encM),.sl .sh (p.tols.map encL),.str p.key,.int .i64 p.most,.str p.node,.bool p.hold];let ζ2:List AV:=[.sl .sh (s.nodes.map encN),.sl .sh (s.pods.map encPd),.sl .sh (s.buds.map encB)];let ζ3:List AV:=[.str n.name,.sl .sh (n.cap.map encA),.sl .sh (n.labels.map encP),.sl .sh (n.taints.map encT),.bool n.cordon];let ζ4:List AV:=[.sl .sh (p.tols.map encL),.sl .sh (n.taints.map encT)];let ζ5:List AV:=[.sl .sh (p.sel.map encM),.sl .sh (n.labels.map encP)];let ζ6:List AV:=[.sl .sh (p.need.map encA),.sl .sh (u.map encA)];let ζ7:List AV:=[.bool (decide (sk≤p.most)),.int .i64 10];let ζ8:List AV:=[.sl .sh (s.nodes.map encN),.str nm];let ζ9:List AV:=[.str [],.str [],.bool noT.hard];gG 240 [] trivial (.callK (ζ8) (.tuple [.agg ζ3,.bool true]) f<|.callI (show Gives cfg (80:FuncId) [.bool true,.int .i64 3] (.tuple [])from must_ok _)<|.yes (show(!n.cordon)=true from by have hh:¬(n.cordon=true):=(by simp+zetaDelta [hc]);simp[hh])<|.callK (ζ5) (.bool true) mt<|.callI (show Gives cfg (80:FuncId) [.bool true,.int .i64 8] (.tuple [])from must_ok _)<|.callK (ζ4) (.tuple [.agg ζ9,.bool false]) w<|.callK ([.bool !false,.int .i64 9]) (.tuple []) (show Gives cfg (80:FuncId) [.bool true,.int .i64 9] (.tuple [])from must_ok _)<|.callI h83<|.tt<|.no (show(p.key==[])=false from Bool.eq_false_iff.2 (by simp+zetaDelta [hk]))<|.callK (ζ7) (.tuple []) mq<|.callG ([.agg ζ2,.str nm]) (.tuple [.sl .sh (u.map encA),.int .i64 e]) fr ⟨rfl,rfl⟩ Res.p<|.yes (show(e==(0:Int))=true from(by simp+zetaDelta [he]))<|.callK (ζ6) (.bool true) ft<|.callI (show Gives cfg (80:FuncId) [.bool true,.int .i64 7] (.tuple [])from must_ok _)<|.fin ((.ret (.tuple []),{boxes:=[ζ2,ζ1,[.str nm],ζ3,ζ9],toks:=[],loops:=[]:Heap})) (by exact .inl ⟨rfl,rfl⟩))
         |false=>
          rw[if_neg (by simp)]
          exact let ζ1:List AV:=[.str p.name,.str p.owner,.int .i64 p.prio,.sl .sh (p.need.map encA),.sl .sh (p.labels.map encP),.sl .sh (p.sel.map encM),.sl .sh (p.tols.map encL),.str p.key,.int .i64 p.most,.str p.node,.bool p.hold];let ζ2:List AV:=[.sl .sh (s.nodes.map encN),.sl .sh (s.pods.map encPd),.sl .sh (s.buds.map encB)];let ζ3:List AV:=[.str n.name,.sl .sh (n.cap.map encA),.sl .sh (n.labels.map encP),.sl .sh (n.taints.map encT),.bool n.cordon];let ζ4:List AV:=[.sl .sh (p.tols.map encL),.sl .sh (n.taints.map encT)];let ζ5:List AV:=[.sl .sh (p.sel.map encM),.sl .sh (n.labels.map encP)];let ζ6:List AV:=[.sl .sh (p.need.map encA),.sl .sh (u.map encA)];let ζ7:List AV:=[.bool (decide (sk≤p.most)),.int .i64 10];let ζ8:List AV:=[.sl .sh (s.nodes.map encN),.str nm];let ζ9:List AV:=[.str [],.str [],.bool noT.hard];gG 240 [] trivial (.callK (ζ8) (.tuple [.agg ζ3,.bool true]) f<|.callI (show Gives cfg (80:FuncId) [.bool true,.int .i64 3] (.tuple [])from must_ok _)<|.yes (show(!n.cordon)=true from by have hh:¬(n.cordon=true):=(by simp+zetaDelta [hc]);simp[hh])<|.callK (ζ5) (.bool true) mt<|.callI (show Gives cfg (80:FuncId) [.bool true,.int .i64 8] (.tuple [])from must_ok _)<|.callK (ζ4) (.tuple [.agg ζ9,.bool false]) w<|.callK ([.bool !false,.int .i64 9]) (.tuple []) (show Gives cfg (80:FuncId) [.bool true,.int .i64 9] (.tuple [])from must_ok _)<|.callI h83<|.tt<|.no (show(p.key==[])=false from Bool.eq_false_iff.2 (by simp+zetaDelta [hk]))<|.callK (ζ7) (.tuple []) mq<|.callG ([.agg ζ2,.str nm]) (.tuple [.sl .sh (u.map encA),.int .i64 e]) fr ⟨rfl,rfl⟩ Res.p<|.yes (show(e==(0:Int))=true from(by simp+zetaDelta [he]))<|.callK (ζ6) (.bool false) ft<|.callP ([.bool false,.int .i64 7]) ({boxes:=[ζ2,ζ1,[.str nm],ζ3,ζ9],toks:=[],loops:=[]:Heap}) m7 ⟨rfl,rfl⟩ rfl (by exact .inr ⟨by decide,rfl⟩))
        ·rw[if_neg (by simp[he])]
         exact let ζ1:List AV:=[.str p.name,.str p.owner,.int .i64 p.prio,.sl .sh (p.need.map encA),.sl .sh (p.labels.map encP),.sl .sh (p.sel.map encM),.sl .sh (p.tols.map encL),.str p.key,.int .i64 p.most,.str p.node,.bool p.hold];let ζ2:List AV:=[.sl .sh (s.nodes.map encN),.sl .sh (s.pods.map encPd),.sl .sh (s.buds.map encB)];let ζ3:List AV:=[.str n.name,.sl .sh (n.cap.map encA),.sl .sh (n.labels.map encP),.sl .sh (n.taints.map encT),.bool n.cordon];let ζ4:List AV:=[.sl .sh (p.tols.map encL),.sl .sh (n.taints.map encT)];let ζ5:List AV:=[.sl .sh (p.sel.map encM),.sl .sh (n.labels.map encP)];let ζ6:List AV:=[.bool (decide (sk≤p.most)),.int .i64 10];let ζ7:List AV:=[.sl .sh (s.nodes.map encN),.str nm];let ζ8:List AV:=[.str [],.str [],.bool noT.hard];gG 240 [] trivial (.callK (ζ7) (.tuple [.agg ζ3,.bool true]) f<|.callI (show Gives cfg (80:FuncId) [.bool true,.int .i64 3] (.tuple [])from must_ok _)<|.yes (show(!n.cordon)=true from by have hh:¬(n.cordon=true):=(by simp+zetaDelta [hc]);simp[hh])<|.callK (ζ5) (.bool true) mt<|.callI (show Gives cfg (80:FuncId) [.bool true,.int .i64 8] (.tuple [])from must_ok _)<|.callK (ζ4) (.tuple [.agg ζ8,.bool false]) w<|.callK ([.bool !false,.int .i64 9]) (.tuple []) (show Gives cfg (80:FuncId) [.bool true,.int .i64 9] (.tuple [])from must_ok _)<|.callI h83<|.tt<|.no (show(p.key==[])=false from Bool.eq_false_iff.2 (by simp+zetaDelta [hk]))<|.callK (ζ6) (.tuple []) mq<|.callG ([.agg ζ2,.str nm]) (.tuple [.sl .sh (u.map encA),.int .i64 e]) fr ⟨rfl,rfl⟩ Res.p<|.no (show(e==(0:Int))=false from Bool.eq_false_iff.2 (by simp+zetaDelta [he]))<|.callP ([.bool false,.int .i64 7]) ({boxes:=[ζ2,ζ1,[.str nm],ζ3,ζ8],toks:=[],loops:=[]:Heap}) m7 ⟨rfl,rfl⟩ rfl (by exact .inr ⟨by decide,rfl⟩))
       ·have mq:Pans cfg 80 [.bool (decide (sk≤p.most)),.int .i64 10] (stopV 10):=by
         rw[show decide (sk≤p.most)=false by simpa using hq];exact m10
        rw[if_neg (by simp[hk,hq])]
        exact let ζ1:List AV:=[.str p.name,.str p.owner,.int .i64 p.prio,.sl .sh (p.need.map encA),.sl .sh (p.labels.map encP),.sl .sh (p.sel.map encM),.sl .sh (p.tols.map encL),.str p.key,.int .i64 p.most,.str p.node,.bool p.hold];let ζ2:List AV:=[.str n.name,.sl .sh (n.cap.map encA),.sl .sh (n.labels.map encP),.sl .sh (n.taints.map encT),.bool n.cordon];let ζ3:List AV:=[.sl .sh (s.nodes.map encN),.sl .sh (s.pods.map encPd),.sl .sh (s.buds.map encB)];let ζ4:List AV:=[.sl .sh (p.tols.map encL),.sl .sh (n.taints.map encT)];let ζ5:List AV:=[.sl .sh (p.sel.map encM),.sl .sh (n.labels.map encP)];let ζ6:List AV:=[.bool (decide (sk≤p.most)),.int .i64 10];let ζ7:List AV:=[.sl .sh (s.nodes.map encN),.str nm];let ζ8:List AV:=[.str [],.str [],.bool noT.hard];gG 240 [] trivial (.callK (ζ7) (.tuple [.agg ζ2,.bool true]) f<|.callI (show Gives cfg (80:FuncId) [.bool true,.int .i64 3] (.tuple [])from must_ok _)<|.yes (show(!n.cordon)=true from by have hh:¬(n.cordon=true):=(by simp+zetaDelta [hc]);simp[hh])<|.callK (ζ5) (.bool true) mt<|.callI (show Gives cfg (80:FuncId) [.bool true,.int .i64 8] (.tuple [])from must_ok _)<|.callK (ζ4) (.tuple [.agg ζ8,.bool false]) w<|.callK ([.bool !false,.int .i64 9]) (.tuple []) (show Gives cfg (80:FuncId) [.bool true,.int .i64 9] (.tuple [])from must_ok _)<|.callI h83<|.tt<|.no (show(p.key==[])=false from Bool.eq_false_iff.2 (by simp+zetaDelta [hk]))<|.callP (ζ6) ({boxes:=[ζ3,ζ1,[.str nm],ζ2,ζ8],toks:=[],loops:=[]:Heap}) mq ⟨rfl,rfl⟩ rfl (by exact .inr ⟨by decide,rfl⟩))
theorem fit_gen(s:St)(hs:StIn s)(hn:∀n∈s.nodes,NdIn n)(p:Pod)(hp:PdIn p)(nm:List UInt8)(sk:Int)(ok:Bool)
 (h83:Gives cfg 83 [encSt (dropS s p.name),encPd p,.str nm] (.tuple [.int .i64 sk,.bool ok])):
 Gives cfg 21 [encSt s,encPd p,.str nm] (.int .i64 (fitG (dropS s p.name) p nm sk ok)):=by
 refine Gives.run (l21 _ _) ?_
 have dr:=drop_gives s p.name (by have:=hs.pods;omega)
 obtain⟨⟨a,H1⟩,hr,hR⟩:=fit_all (dropS s p.name) (drop_inF hs p.name) hn p hp nm sk ok h83
 generalize fitG (dropS s p.name) p nm sk ok=e at hR⊢
 generalize dropS s p.name=s2 at*
 have ht:lim cfg (.fn 77) [.func 78 [.ptr 0 0,.ptr 2 0,.ptr 1 0]] ⟨[(encSt s2).cells,(encPd p).cells,[.str nm]],[],[]⟩=some (.ret (.int .i64 e),H1):=by
  rw[lim_try rfl,l78,hr]
  rcases hR with⟨h0,h1⟩|⟨h0,h1⟩
  ·simp only at h1;subst h1;subst h0;rfl
  ·simp only at h1;subst h1;rfl
 have hd:=does_callE (xs:=[.func 78 [.ptr 0 0,.ptr 2 0,.ptr 1 0]]) (caps:=[]) ht rfl rfl
 generalize trunc _ _ _ H1=H2 at hd
 exact let ζ1:Heap:={boxes:=[[.sl .sh (s.nodes.map encN),.sl .sh (s.pods.map encPd),.sl .sh (s.buds.map encB)],[.str p.name,.str p.owner,.int .i64 p.prio,.sl .sh (p.need.map encA),.sl .sh (p.labels.map encP),.sl .sh (p.sel.map encM),.sl .sh (p.tols.map encL),.str p.key,.int .i64 p.most,.str p.node,.bool p.hold],[.str nm]],toks:=[],loops:=[]:Heap};gG 90 [] trivial (.effY (show Does cfg (.call (.c (.func (27:FuncId) [])) [.c (encSt s),.c (.str p.name)]) ζ1 (encSt s2) ζ1 from gf27 dr _)<|.effY hd<|.fin ((.ret (.int .i64 e),H2)) rfl)
end Go.Aa.T
set_option linter.unusedVariables false
set_option linter.unusedSimpArgs false
set_option maxRecDepth 100000
namespace Go.Aa.T
open Go.Aa Go.Proofs
structure POk(v:List Amount):Prop where
 name:∀x∈v,isName x.name=true
 pos:∀x∈v,0<x.n
 rise:Rise (nms v)
theorem VOk.p{v:List Amount}(h:VOk v):POk v:=⟨h.name,h.pos,h.rise⟩
theorem POk.v{v:List Amount}(h:POk v)(hl:v.length≤8):VOk v:=⟨hl,h.name,h.pos,h.rise⟩
theorem rise_len{l m:List (List UInt8)}(hl:Rise l)(hm:Rise m)(h:∀x∈l,x∈m):l.length≤m.length:=by
 have e:l=m.filter fun x=>decide (x∈l):=rise_ext hl (hm.filter _) fun x=>by
  simp only[List.mem_filter,decide_eq_true_eq]
  exact⟨fun hx=>⟨h x hx,hx⟩,fun hx=>hx.2⟩
 rw[e];exact List.length_filter_le _ _
theorem names_sub{l m:List (List UInt8)}(h:∀x∈l,x∈m):(namesOf l).length≤(namesOf m).length:=
 rise_len (namesOf_rise l) (namesOf_rise m) fun x hx=>namesOf_mem.2 (h x (namesOf_mem.1 hx))
theorem pok_pos{v:List Amount}(h:POk v){s:List UInt8}:s∈nms v↔0<getQ v s:=by
 constructor
 ·intro hs
  obtain⟨x,hx,-,e⟩:=getQ_some hs
  rw[e];exact h.pos x hx
 ·intro hs
  by_cases hm:s∈nms v
  ·exact hm
  ·rw[getQ_none hm]at hs;omega
theorem pok_nn{v:List Amount}(h:POk v)(s:List UInt8):0≤getQ v s:=by
 by_cases hm:s∈nms v
 ·have:=(pok_pos h).1 hm;omega
 ·rw[getQ_none hm];omega
def mk1(g:OfQ)(l:List (List UInt8)):List Amount:=(l.filter fun s=>decide (0<(g s).1)).map fun s=>⟨s,(g s).1⟩
theorem madeF_ok{g:OfQ}:∀{l:List (List UInt8)}(acc:List Amount),(∀s∈l,(g s).2=0)→madeF g l acc=(acc++mk1 g l,0)
 |[],acc,_=>by simp[madeF,mk1]
 |s::l,acc,h=>by
  unfold madeF
  rw[if_pos (h s (by simp)),madeF_ok _ fun t ht=>h t (by simp[ht])]
  by_cases hp:0<(g s).1<;>simp[mk1,hp]
theorem madeF_zero{g:OfQ}:∀{l:List (List UInt8)}{acc:List Amount},(madeF g l acc).2=0→∀s∈l,(g s).2=0
 |[],acc,_,s,hs=>by cases hs
 |t::l,acc,h,s,hs=>by
  unfold madeF at h
  split at h
  ·rename_i h0
   rcases List.mem_cons.1 hs with rfl|hs
   ·exact h0
   ·exact madeF_zero h s hs
  ·rename_i h0;exact absurd h h0
theorem nms_mk1(g:OfQ)(l:List (List UInt8)):nms (mk1 g l)=l.filter fun s=>decide (0<(g s).1):=by
 simp only[nms,mk1,List.map_map]
 conv=>rhs;rw[←List.map_id (l.filter _)]
 rfl
theorem made_two{g:OfQ}{a b:List Amount}(oa:VOk a)(ob:VOk b):madeV g [a,b]=finV (madeF g (namesOf (nms a++nms b)) []):=by
 have e:allNames [a,b]=nms a++nms b:=by simp[allNames]
 unfold madeV
 rw[if_pos (by simp[firstE,ckV_of oa,ckV_of ob]),e]
theorem addQ_nn{a b:Int}(ha:0≤a)(hb:0≤b):addQ a b=toldQ (a+b):=by
 unfold addQ bothE;rw[if_neg (show¬a<0 by omega),if_neg (show¬b<0 by omega),if_neg (by simp)]
theorem told_ok{n:Int}(h:n≤9223372036854775807):toldQ n=(n,0):=by unfold toldQ;rw[if_neg (by omega)]
theorem told_zero{n:Int}(h:(toldQ n).2=0):n≤9223372036854775807:=by
 unfold toldQ at h;split at h
 ·cases h
 ·omega
theorem add_nms{a b:List Amount}(oa:VOk a)(ob:VOk b)(hs:∀s,getQ a s+getQ b s≤9223372036854775807):
 (namesOf (nms a++nms b)).filter (fun s=>decide (0<(addQ (getQ a s) (getQ b s)).1))=namesOf (nms a++nms b):=by
 refine List.filter_eq_self.2 fun s hx=> ?_
 have pa:=pok_nn oa.p s
 have pb:=pok_nn ob.p s
 rw[addQ_nn pa pb,told_ok (hs s)]
 have:0<getQ a s+getQ b s:=by
  rcases List.mem_append.1 (namesOf_mem.1 hx)with h|h
  ·have:=(pok_pos oa.p).1 h;omega
  ·have:=(pok_pos ob.p).1 h;omega
 simpa using this
theorem add_zero{a b:List Amount}(oa:VOk a)(ob:VOk b)(h:(addV a b).2=0):(∀s,getQ a s+getQ b s≤9223372036854775807)∧(namesOf (nms a++nms b)).length≤8:=by
 have pa:=pok_nn oa.p
 have pb:=pok_nn ob.p
 unfold addV at h
 rw[made_two oa ob]at h
 have h0:(madeF (fun s=>addQ (getQ a s) (getQ b s)) (namesOf (nms a++nms b)) []).2=0:=by
  unfold finV at h;split at h
  ·rename_i h0;exact h0
  ·exact h
 have h1:=madeF_zero h0
 have hs:∀s,getQ a s+getQ b s≤9223372036854775807:=fun s=>by
  by_cases hm:s∈nms a++nms b
  ·have:=h1 s (namesOf_mem.2 hm)
   simp only[addQ_nn (pa s) (pb s)]at this
   exact told_zero this
  ·rw[getQ_none fun h=>hm (List.mem_append.2 (.inl h)),getQ_none fun h=>hm (List.mem_append.2 (.inr h))];omega
 refine⟨hs,?_⟩
 rw[madeF_ok _ h1,List.nil_append]at h
 have e2:=nms_mk1 (fun s=>addQ (getQ a s) (getQ b s)) (namesOf (nms a++nms b))
 rw[add_nms oa ob hs]at e2
 rw[←e2,List.length_map]
 unfold finV at h
 rw[if_pos rfl]at h
 split at h
 ·cases h
 ·rename_i h3;exact Nat.le_of_not_lt h3
def totQ:List (List Amount)→List UInt8→Int
 |[],_=>0
 |v::vs,s=>getQ v s+totQ vs s
theorem totQ_nn{vs:List (List Amount)}(h:∀v∈vs,VOk v)(s:List UInt8):0≤totQ vs s:=by
 induction vs with
 |nil=>simp[totQ]
 |cons v vs ih=>
  have:=pok_nn (h v (by simp)).p s
  have:=ih fun w hw=>h w (by simp[hw])
  simp only[totQ];omega
structure SumOk(acc:List Amount)(vs:List (List Amount)):Prop where
 le:∀s,getQ acc s+totQ vs s≤9223372036854775807
 few:(namesOf (nms acc++allNames vs)).length≤8
theorem SumOk.head{acc v:List Amount}{vs:List (List Amount)}(h:SumOk acc (v::vs))(hv:∀v∈vs,VOk v):(∀s,getQ acc s+getQ v s≤9223372036854775807)∧(namesOf (nms acc++nms v)).length≤8:=by
 refine⟨fun s=> ?_,?_⟩
 ·have:=h.le s
  have:=totQ_nn hv s
  simp only[totQ]at*;omega
 ·refine Nat.le_trans (names_sub fun x hx=> ?_) h.few
  rw[allNames_cons]
  simp only[List.mem_append]at hx⊢
  rcases hx with h|h
  ·exact .inl h
  ·exact .inr (.inl h)
end Go.Aa.T
set_option linter.unusedVariables false
set_option linter.unusedSimpArgs false
set_option maxRecDepth 100000
namespace Go.Aa.T
open Go.Aa Go.Proofs
theorem with_any(s:St)(l:List Pod):Gives cfg 120 [encSt s,.sl .sh (l.map encPd)] (encSt {s with pods:=l}):=by
 refine Gives.run (l120 _ _) ?_
 exact let ζ1:List AV:=[.sl .sh (s.nodes.map encN),.sl .sh (l.map encPd),.sl .sh (s.buds.map encB)];gG 60 [] trivial (.fin ((.ret (.agg ζ1),{boxes:=[[.sl .sh (s.nodes.map encN),.sl .sh (s.pods.map encPd),.sl .sh (s.buds.map encB)],ζ1],toks:=[],loops:=[]:Heap})) rfl)
theorem dropR_loop(s:St)(nm:List UInt8)(hs:s.pods.length≤1000)(b1:List AV):∀(post:List Pod)(i:Nat)(hd:s.pods.drop i=post)(acc:List Pod)(ha:acc.length≤i)(T:Env)
 (hT:Has T [(1,.str nm),(2,.ptr 0 0),(4,.ptr 1 0),(5,rowF encPd acc),(6,.int .i64 i)]),
 Goes cfg a47 k47_0 T ⟨[(encSt s).cells,pzc],tkR encPd acc,[]⟩ (IsRet (encSt {s with pods:=acc++offP nm post})):=by
 intro post
 induction post with
 |nil=>
  intro i hd acc ha T hT
  have hge:=drop_ge hd
  rw[show acc++offP nm []=acc by simp[offP]]
  have w:=with_any s acc
  exact let ζ1:List AV:=[.sl .sh (List.map encN {nodes:=s.nodes,pods:=acc,buds:=s.buds:St}.nodes),.sl .sh (List.map encPd {nodes:=s.nodes,pods:=acc,buds:=s.buds:St}.pods),.sl .sh (List.map encB {nodes:=s.nodes,pods:=acc,buds:=s.buds:St}.buds)];let ζ2:List AV:=[.sl .sh (s.nodes.map encN),.sl .sh (s.pods.map encPd),.sl .sh (s.buds.map encB)];gG 60 _ hT (.len (lM .sh encPd s.pods)<|.no (dF ((↑i:Int)<(↑s.pods.length:Int)))<|.callG ([.agg ζ2,.sl (skF acc) (acc.map encPd)]) (.agg ζ1) w Shuts.p ⟨rfl,rfl⟩<|.fin ((.ret (.agg ζ1),{boxes:=[ζ2,ζ1],toks:=tkR encPd acc,loops:=[]:Heap})) rfl)
 |cons x post ih=>
  intro i hd acc ha T hT
  have hlt:=drop_lt hd
  have hnx:=drop_next hd
  by_cases hq:x.name=nm
  ·have e:acc++offP nm (x::post)=acc++offP nm post:=by simp[offP,hq]
   rw[e]
   have ih':=ih (i+1) hnx acc (by omega)
   exact gG 120 _ hT (.len (lM .sh encPd s.pods)<|.yes (dT ((↑i:Int)<(↑s.pods.length:Int)))<|.idx (iR 11 encPd hd)<|.no (show(!x.name==nm)=false from by have hh:(x.name==nm)=true:=(by simpa using hq);simp[hh])<|.bin (iI i)<|.cutQ k47_0 [(1,.str nm),(2,.ptr 0 0),(4,.ptr 1 0),(5,.sl (skF acc) (acc.map encPd)),(6,.int .i64 (↑(i+1)))] ({boxes:=[[.sl .sh (s.nodes.map encN),.sl .sh (s.pods.map encPd),.sl .sh (s.buds.map encB)],[.sl .full [],.sl .full [],.sl .full []]],toks:=tkR encPd acc,loops:=[]:Heap}) (fun T hT=>(ih' T hT)))
  ·have e:acc++offP nm (x::post)=(acc++[x])++offP nm post:=by simp[offP,hq]
   rw[e]
   have ih':=ih (i+1) hnx (acc++[x]) (by simp;omega)
   have ap:∀bs ls,appendA 11 184 ⟨bs,tkR encPd acc,ls⟩ (rowF encPd acc) (.sl .full [encPd x])=some (rowF encPd (acc++[x]),⟨bs,tkR encPd (acc++[x]),ls⟩):=fun bs ls=>
    row_append_T encPd (x:=x) (by simp;omega) lenPd rfl rfl
   exact let ζ1:List (List AV):=[[.sl .sh (s.nodes.map encN),.sl .sh (s.pods.map encPd),.sl .sh (s.buds.map encB)],[.sl .full [],.sl .full [],.sl .full []]];let ζ2:Heap:={boxes:=ζ1,toks:=tkR encPd (acc++[x]),loops:=[]:Heap};gG 120 _ hT (.len (lM .sh encPd s.pods)<|.yes (dT ((↑i:Int)<(↑s.pods.length:Int)))<|.idx (iR 11 encPd hd)<|.yes (show(!x.name==nm)=true from by have hh:¬((x.name==nm)=true):=(by simpa using hq);simp[hh])<|.idx (iR 11 encPd hd)<|.append (show appendA (11:Nat) (184:Nat) {boxes:=ζ1,toks:=tkR encPd acc,loops:=[]:Heap} (.sl (skF acc) (acc.map encPd)) (.sl .full [.agg [.str x.name,.str x.owner,.int .i64 x.prio,.sl .sh (x.need.map encA),.sl .sh (x.labels.map encP),.sl .sh (x.sel.map encM),.sl .sh (x.tols.map encL),.str x.key,.int .i64 x.most,.str x.node,.bool x.hold]])=some ((rowF encPd (acc++[x]),ζ2))from ap _ _)<|.bin (iI i)<|.cutQ k47_0 [(1,.str nm),(2,.ptr 0 0),(4,.ptr 1 0),(5,.sl (skF (acc++[x])) (List.map encPd (acc++[x]))),(6,.int .i64 (↑(i+1)))] (ζ2) (fun T hT=>(ih' T hT)))
theorem drop_ref(s:St)(nm:List UInt8)(hs:s.pods.length≤1000):Gives cfg 47 [encSt s,.str nm] (encSt (dropS s nm)):=by
 refine Gives.run (l47 _ _) ?_
 have h:=dropR_loop s nm hs [] s.pods 0 rfl [] (by simp)
 have e:rowF encPd ([]:List Pod)=.sl .full []:=rfl
 rw[e,tk_nil,List.nil_append]at h
 have e2:encSt {s with pods:=offP nm s.pods}=encSt (dropS s nm):=rfl
 rw[e2]at h
 exact gG 60 [] trivial (.cutQ k47_0 [(1,.str nm),(2,.ptr 0 0),(4,.ptr 1 0),(5,.sl .full []),(6,.int .i64 0)] ({boxes:=[[.sl .sh (s.nodes.map encN),.sl .sh (s.pods.map encPd),.sl .sh (s.buds.map encB)],[.sl .full [],.sl .full [],.sl .full []]],toks:=[],loops:=[]:Heap}) (fun T hT=>(h T hT)))
end Go.Aa.T
set_option linter.unusedVariables false
set_option linter.unusedSimpArgs false
set_option maxRecDepth 100000
namespace Go.Aa.T
open Go.Aa Go.Proofs
end Go.Aa.T
set_option linter.unusedVariables false
set_option linter.unusedSimpArgs false
set_option maxRecDepth 100000
namespace Go.Aa.T
open Go.Aa Go.Proofs
end Go.Aa.T
set_option linter.unusedVariables false
set_option linter.unusedSimpArgs false
set_option maxRecDepth 100000
namespace Go.Aa.T
open Go.Aa Go.Proofs
theorem find_uniq{X:Type}{most:Nat}{ck:X→Int}{nm:X→List UInt8}{s:List X}(h:ckAll most ck nm s=0){x:X}(hx:x∈s):findG nm s (nm x)=some x:=by
 obtain⟨y,hy⟩:∃y,findG nm s (nm x)=some y:=by
  cases e:findG nm s (nm x)with
  |some y=>exact⟨y,rfl⟩
  |none=>exact absurd (List.find?_eq_none.1 e x hx) (by simp)
 rw[hy]
 have hn:nm y=nm x:=by simpa using List.find?_some hy
 obtain⟨i,hi,ei⟩:=List.getElem_of_mem hx
 obtain⟨j,hj,ej⟩:=List.getElem_of_mem (List.mem_of_find?_eq_some hy)
 have ei':s[i]?=some x:=by rw[List.getElem?_eq_getElem hi,ei]
 have ej':s[j]?=some y:=by rw[List.getElem?_eq_getElem hj,ej]
 rcases Nat.lt_trichotomy i j with h1|h1|h1
 ·have:=names_ltX h (j-i-1) i x y ei' (by rw[show i+(j-i-1)+1=j by omega];exact ej')
  rw[hn,bl_irrefl]at this;cases this
 ·subst h1;rw[ei']at ej';exact ej'.symm
 ·have:=names_ltX h (i-j-1) j y x ej' (by rw[show j+(i-j-1)+1=i by omega];exact ei')
  rw[hn,bl_irrefl]at this;cases this
structure GdS(s:St):Prop where
 cap:∀n∈s.nodes,VOk n.cap
 need:∀p∈s.pods,VOk p.need
 name:∀n∈s.nodes,n.name≠[]
 find:∀n∈s.nodes,findG Node.name s.nodes n.name=some n
 pods:srtP s.pods
 room:∀n∈s.nodes,(usedS s n.name).2=0∧fitsV (usedS s n.name).1 n.cap=true
 total:(totalS s).2=0
theorem roomE_zero{s:St}:∀{l:List Node},roomE s l=0→∀n∈l,(usedS s n.name).2=0∧fitsV (usedS s n.name).1 n.cap=true
 |[],_,n,hn=>by cases hn
 |m::l,h,n,hn=>by
  unfold roomE at h
  split at h
  ·rename_i h0
   split at h
   ·rename_i h1
    rcases List.mem_cons.1 hn with rfl|hn
    ·exact⟨h0,h1⟩
    ·exact roomE_zero h n hn
   ·cases h
  ·rename_i h0;exact absurd h h0
theorem gdS{s:St}(h:ckSt s=0):GdS s:=by
 have h1:ckAll 32 ckN Node.name s.nodes=0:=firstE_zero h _ (by simp)
 have h2:ckAll 128 ckPd Pod.name s.pods=0:=firstE_zero h _ (by simp)
 exact⟨fun n hn=>vOk (firstE_zero ((ckAll_mem h1).2 n hn) _ (by simp)),fun p hp=>vOk (firstE_zero ((ckAll_mem h2).2 p hp) _ (by simp)),fun n hn=>ckN_name ((ckAll_mem h1).2 n hn),
  fun n hn=>find_uniq h1 hn,ck_srt h,roomE_zero (firstE_zero h _ (by simp)),firstE_zero h _ (by simp)⟩
def ndS(s:St)(nd:List UInt8):List (List Amount):=(onS s nd).map (·.need)
theorem GdS.nd{s:St}(g:GdS s)(nd:List UInt8):∀v∈ndS s nd,VOk v:=fun v hv=>by
 obtain⟨p,hp,rfl⟩:=List.mem_map.1 hv
 exact g.need p (List.mem_filter.1 hp).1
end Go.Aa.T
set_option linter.unusedVariables false
set_option linter.unusedSimpArgs false
set_option maxRecDepth 100000
namespace Go.Aa.T
open Go.Aa Go.Proofs
def fitNs(F:List UInt8→Int)(l:List Node):List (List UInt8):=(l.filter fun n=>F n.name==0).map Node.name
theorem nodes_loop(s:St)(p:Pod)(F:List UInt8→Int)(hF:∀n∈s.nodes,Gives cfg 21 [encSt s,encPd p,.str n.name] (.int .i64 (F n.name)))(hl:s.nodes.length≤1000):
 ∀(post:List Node)(i:Nat)(hd:s.nodes.drop i=post)(acc:List (List UInt8))(ha:acc.length≤i)(ex:List (List AV))(T:Env)
 (hT:Has T [(2,.ptr 0 0),(3,.ptr 1 0),(5,rowF .str acc),(9,.sl .sh (s.nodes.map encN)),(10,.int .i64 s.nodes.length),(11,.int .i64 i)]),
 Goes cfg a24 k24_0 T ⟨(encSt s).cells::(encPd p).cells::ex,tkR .str acc,[]⟩ (IsRet (rowF .str (acc++fitNs F post))):=by
 intro post
 induction post with
 |nil=>
  intro i hd acc ha ex T hT
  have hge:=drop_ge hd
  rw[show acc++fitNs F []=acc by simp[fitNs]]
  exact gG 60 _ hT (.no (dF ((↑i:Int)<(↑s.nodes.length:Int)))<|.fin ((.ret (.sl (skF acc) (List.map .str acc)),{boxes:=[.sl .sh (s.nodes.map encN),.sl .sh (s.pods.map encPd),.sl .sh (s.buds.map encB)]::[.str p.name,.str p.owner,.int .i64 p.prio,.sl .sh (p.need.map encA),.sl .sh (p.labels.map encP),.sl .sh (p.sel.map encM),.sl .sh (p.tols.map encL),.str p.key,.int .i64 p.most,.str p.node,.bool p.hold]::ex,toks:=tkR .str acc,loops:=[]:Heap})) rfl)
 |cons x post ih=>
  intro i hd acc ha ex T hT
  have hlt:=drop_lt hd
  have hnx:=drop_next hd
  have hf:=hF x (drop_mem hd)
  by_cases hq:F x.name=0
  ·have e:acc++fitNs F (x::post)=(acc++[x.name])++fitNs F post:=by simp[fitNs,List.filter_cons,hq]
   rw[e]
   rw[hq]at hf
   have ih':=ih (i+1) hnx (acc++[x.name]) (by simp;omega) (ex++[(encN x).cells])
   have ap:∀bs ls,appendA 1 16 ⟨bs,tkR .str acc,ls⟩ (rowF .str acc) (.sl .full [.str x.name])=some (rowF .str (acc++[x.name]),⟨bs,tkR .str (acc++[x.name]),ls⟩):=fun bs ls=>
    row_append_T AV.str (x:=x.name) (by simp;omega) (lenOk_map fun _=>rfl) rfl rfl
   exact let ζ1:List AV:=[.str p.name,.str p.owner,.int .i64 p.prio,.sl .sh (p.need.map encA),.sl .sh (p.labels.map encP),.sl .sh (p.sel.map encM),.sl .sh (p.tols.map encL),.str p.key,.int .i64 p.most,.str p.node,.bool p.hold];let ζ2:List AV:=[.str x.name,.sl .sh (x.cap.map encA),.sl .sh (x.labels.map encP),.sl .sh (x.taints.map encT),.bool x.cordon];let ζ3:List AV:=[.sl .sh (s.nodes.map encN),.sl .sh (s.pods.map encPd),.sl .sh (s.buds.map encB)];let ζ4:Heap:={boxes:=ζ3::ζ1::(ex++[ζ2]),toks:=tkR .str acc,loops:=[]:Heap};let ζ5:Heap:={boxes:=ζ3::ζ1::(ex++[ζ2]),toks:=tkR .str (acc++[x.name]),loops:=[]:Heap};let ζ6:List AV:=[.str [],.sl .full [],.sl .full [],.sl .full [],.bool false];gG 120 _ hT (.yes (dT ((↑i:Int)<(↑s.nodes.length:Int)))<|.idx (iR 5 encN hd)<|.load (rfl:loadA true 5 {boxes:=ζ3::ζ1::ex,toks:=tkR .str acc,loops:=[]:Heap} (.ref ζ2)=some (.agg ζ2))<|.store (show storeA 5 {boxes:=ζ3::ζ1::(ex++[ζ6]),toks:=tkR .str acc,loops:=[]:Heap} (.ptr (ζ3::ζ1::ex).length (0:Nat)) (.agg ζ2)=some (ζ4)from store_box2 (cs:=ζ6) (cs':=ζ2) (by simp+zetaDelta) rfl (by simp+zetaDelta [List.set_append]))<|.load (lB true 3 ζ4 0 0 (.agg ζ3) ζ3)<|.load (lB true 11 ζ4 1 0 (.agg ζ1) ζ1)<|.load (show loadA false 1 ζ4 (.ptr (ζ3::ζ1::ex).length (0:Nat))=some (.str x.name)from load_box (cs:=ζ2) (by simp+zetaDelta) rfl)<|.callI hf<|.tt<|.load (show loadA false 1 ζ4 (.ptr (ζ3::ζ1::ex).length (0:Nat))=some (.str x.name)from load_box (cs:=ζ2) (by simp+zetaDelta) rfl)<|.append (show appendA (1:Nat) (16:Nat) ζ4 (.sl (skF acc) (List.map .str acc)) (.sl .full [.str x.name])=some ((rowF .str (acc++[x.name]),ζ5))from ap _ _)<|.bin (iI i)<|.cutQ k24_0 [(2,.ptr 0 0),(3,.ptr 1 0),(5,.sl (skF (acc++[x.name])) (List.map .str (acc++[x.name]))),(9,.sl .sh (s.nodes.map encN)),(10,.int .i64 (↑s.nodes.length)),(11,.int .i64 (↑(i+1)))] (ζ5) (fun T hT=>(ih' T hT)))
  ·have e:acc++fitNs F (x::post)=acc++fitNs F post:=by simp[fitNs,List.filter_cons,hq]
   rw[e]
   have ih':=ih (i+1) hnx acc (by omega) (ex++[(encN x).cells])
   generalize F x.name=c at hf hq
   exact let ζ1:List AV:=[.str p.name,.str p.owner,.int .i64 p.prio,.sl .sh (p.need.map encA),.sl .sh (p.labels.map encP),.sl .sh (p.sel.map encM),.sl .sh (p.tols.map encL),.str p.key,.int .i64 p.most,.str p.node,.bool p.hold];let ζ3:List AV:=[.sl .sh (s.nodes.map encN),.sl .sh (s.pods.map encPd),.sl .sh (s.buds.map encB)];let ζ4:List AV:=[.str x.name,.sl .sh (x.cap.map encA),.sl .sh (x.labels.map encP),.sl .sh (x.taints.map encT),.bool x.cordon];let ζ2:Heap:={boxes:=ζ3::ζ1::(ex++[ζ4]),toks:=tkR .str acc,loops:=[]:Heap};let ζ5:List AV:=[.str [],.sl .full [],.sl .full [],.sl .full [],.bool false];gG 120 _ hT (.yes (dT ((↑i:Int)<(↑s.nodes.length:Int)))<|.idx (iR 5 encN hd)<|.load (rfl:loadA true 5 {boxes:=ζ3::ζ1::ex,toks:=tkR .str acc,loops:=[]:Heap} (.ref ζ4)=some (.agg ζ4))<|.store (show storeA 5 {boxes:=ζ3::ζ1::(ex++[ζ5]),toks:=tkR .str acc,loops:=[]:Heap} (.ptr (ζ3::ζ1::ex).length (0:Nat)) (.agg ζ4)=some (ζ2)from store_box2 (cs:=ζ5) (cs':=ζ4) (by simp+zetaDelta) rfl (by simp+zetaDelta [List.set_append]))<|.load (lB true 3 ζ2 0 0 (.agg ζ3) ζ3)<|.load (lB true 11 ζ2 1 0 (.agg ζ1) ζ1)<|.load (show loadA false 1 ζ2 (.ptr (ζ3::ζ1::ex).length (0:Nat))=some (.str x.name)from load_box (cs:=ζ4) (by simp+zetaDelta) rfl)<|.callI hf<|.no (show(c==(0:Int))=false from Bool.eq_false_iff.2 (by simpa using hq))<|.bin (iI i)<|.cutQ k24_0 [(2,.ptr 0 0),(3,.ptr 1 0),(5,.sl (skF acc) (List.map .str acc)),(9,.sl .sh (s.nodes.map encN)),(10,.int .i64 (↑s.nodes.length)),(11,.int .i64 (↑(i+1)))] (ζ2) (fun T hT=>(ih' T hT)))
theorem nodes_any(s:St)(p:Pod)(F:List UInt8→Int)(hF:∀n∈s.nodes,Gives cfg 21 [encSt s,encPd p,.str n.name] (.int .i64 (F n.name)))(hl:s.nodes.length≤1000):
 Gives cfg 24 [encSt s,encPd p] (rowF .str (fitNs F s.nodes)):=by
 refine Gives.run (l24 _ _) ?_
 have h:=nodes_loop s p F hF hl s.nodes 0 rfl [] (by simp) []
 have e:rowF AV.str ([]:List (List UInt8))=.sl .full []:=rfl
 rw[e,tk_nil,List.nil_append]at h
 exact gG 60 [] trivial (.len (lM .sh encN s.nodes)<|.cutQ k24_0 [(2,.ptr 0 0),(3,.ptr 1 0),(5,.sl .full []),(9,.sl .sh (s.nodes.map encN)),(10,.int .i64 (↑s.nodes.length)),(11,.int .i64 0)] ({boxes:=[[.sl .sh (s.nodes.map encN),.sl .sh (s.pods.map encPd),.sl .sh (s.buds.map encB)],[.str p.name,.str p.owner,.int .i64 p.prio,.sl .sh (p.need.map encA),.sl .sh (p.labels.map encP),.sl .sh (p.sel.map encM),.sl .sh (p.tols.map encL),.str p.key,.int .i64 p.most,.str p.node,.bool p.hold]],toks:=[],loops:=[]:Heap}) (fun T hT=>(h T hT)))
theorem drop_drop(s:St)(a b:List UInt8):dropS (dropS s a) b=dropS (dropS s b) a:=by
 unfold dropS offP
 simp only[List.filter_filter,Bool.and_comm]
end Go.Aa.T
set_option linter.unusedVariables false
set_option linter.unusedSimpArgs false
set_option maxRecDepth 100000
namespace Go.Aa.T
open Go.Aa Go.Proofs
end Go.Aa.T
set_option linter.unusedVariables false
set_option linter.unusedSimpArgs false
set_option maxRecDepth 100000
namespace Go.Aa.T
open Go.Aa Go.Proofs
end Go.Aa.T
set_option linter.unusedVariables false
set_option linter.unusedSimpArgs false
set_option maxRecDepth 100000
namespace Go.Aa.T
open Go.Aa Go.Proofs
theorem fitNs_len(F:List UInt8→Int)(l:List Node):(fitNs F l).length≤l.length:=by
 unfold fitNs;rw[List.length_map];exact List.length_filter_le _ _
theorem known15':Gives cfg 15 [] (.bool true):=by
 obtain⟨H,h⟩:=known_ret15
 exact Gives.of h
theorem few_nd{s:St}(fs:FewS s):∀n∈s.nodes,NdIn n:=fun n hn=>by
 have f:=fewNd (fs.node n hn)
 exact⟨by have:=f.labels;omega,by have:=f.taints;omega⟩
theorem few_pd{p:Pod}(h:fewPd p=true):PdIn p:=by
 have f:=fewPod h
 exact⟨by have:=f.need;omega,by have:=f.labels;omega,by have:=f.sel;omega,by have:=f.tols;omega⟩
end Go.Aa.T
set_option linter.unusedVariables false
set_option linter.unusedSimpArgs false
set_option maxRecDepth 100000
namespace Go.Aa.T
open Go.Aa Go.Proofs
def fitS(s:St)(p:Pod)(nm:List UInt8):Int:=fitG (dropS s p.name) p nm (skewS (dropS s p.name) p nm).1 (skewS (dropS s p.name) p nm).2
theorem fit_any(s:St)(hs:StIn s)(hn:∀n∈s.nodes,NdIn n)(hl:s.nodes.length≤1000)(p:Pod)(hp:PdIn p)(nm:List UInt8):Gives cfg 21 [encSt s,encPd p,.str nm] (.int .i64 (fitS s p nm)):=
 fit_gen s hs hn p hp nm _ _ (skew_any (dropS s p.name) p nm (by have:=(drop_inF hs p.name).pods;omega) hl fun n h=>(hn n h).labels)
end Go.Aa.T
set_option linter.unusedVariables false
set_option linter.unusedSimpArgs false
set_option maxRecDepth 100000
namespace Go.Aa.T
open Go.Aa Go.Proofs
theorem skR_loop(s:St)(p:Pod)(n:Node)(own:List UInt8)(ds:List (List UInt8))(hc:∀d,Gives cfg 160 [encSt s,encPd p,.str d] (.int .i64 (countS s p d)))(here:Int)(hh:0≤here∧here≤100000)(hn:ds.length≤1000):
 ∀(post:List (List UInt8))(i:Nat)(hd:ds.drop i=post)(m:Int)(hm:0≤m)(hm2:m≤100000)(T:Env)
 (hT:Has T [(3,.ptr 0 0),(4,.ptr 1 0),(10,.str own),(12,.int .i64 here),(13,.int .i64 m),(14,.sl .sh (ds.map .str)),(15,.int .i64 i)]),
 Goes cfg a87 k87_0 T ⟨[(encSt s).cells,(encPd p).cells,(encN n).cells],[],[]⟩ (IsRet (.tuple [.int .i64 (here-leastS (countS s p) own post m),.bool true])):=by
 intro post
 induction post with
 |nil=>
  intro i hd m hm hm2 T hT
  have hge:=drop_ge hd
  rw[show leastS (countS s p) own [] m=m from rfl]
  have sb:binA .sub (.int .i64 here) (.int .i64 m)=some (.int .i64 (here-m)):=subI (by omega) (by omega)
  exact gG 60 _ hT (.len (lM .sh .str ds)<|.no (dF ((↑i:Int)<(↑ds.length:Int)))<|.bin sb<|.fin ((.ret (.tuple [.int .i64 (here-m),.bool true]),{boxes:=[[.sl .sh (s.nodes.map encN),.sl .sh (s.pods.map encPd),.sl .sh (s.buds.map encB)],[.str p.name,.str p.owner,.int .i64 p.prio,.sl .sh (p.need.map encA),.sl .sh (p.labels.map encP),.sl .sh (p.sel.map encM),.sl .sh (p.tols.map encL),.str p.key,.int .i64 p.most,.str p.node,.bool p.hold],[.str n.name,.sl .sh (n.cap.map encA),.sl .sh (n.labels.map encP),.sl .sh (n.taints.map encT),.bool n.cordon]],toks:=[],loops:=[]:Heap})) rfl)
 |cons d post ih=>
  intro i hd m hm hm2 T hT
  have hlt:=drop_lt hd
  have hnx:=drop_next hd
  have hxi:idxA 1 (.sl .sh (ds.map .str)) (.int .i64 (i:Nat))=some (.ref [.str d]):=idx_row (f:=AV.str) hd rfl
  have hcd:=hc d
  generalize hq:countS s p d=c at hcd
  by_cases h:d=own
  ·have e:leastS (countS s p) own (d::post) m=leastS (countS s p) own post m:=by simp only[leastS,if_pos h]
   rw[e]
   have ih':=ih (i+1) hnx m hm hm2
   exact let ζ1:List AV:=[.str p.name,.str p.owner,.int .i64 p.prio,.sl .sh (p.need.map encA),.sl .sh (p.labels.map encP),.sl .sh (p.sel.map encM),.sl .sh (p.tols.map encL),.str p.key,.int .i64 p.most,.str p.node,.bool p.hold];let ζ2:List AV:=[.sl .sh (s.nodes.map encN),.sl .sh (s.pods.map encPd),.sl .sh (s.buds.map encB)];gG 120 _ hT (.len (lM .sh .str ds)<|.yes (dT ((↑i:Int)<(↑ds.length:Int)))<|.idx hxi<|.callI hcd<|.idx hxi<|.no (show(!d==own)=false from by have hh:(d==own)=true:=(by simpa using h);simp[hh])<|.ff<|.bin (iI i)<|.cutQ k87_0 [(3,.ptr 0 0),(4,.ptr 1 0),(10,.str own),(12,.int .i64 here),(13,.int .i64 m),(14,.sl .sh (List.map .str ds)),(15,.int .i64 (↑(i+1)))] ({boxes:=[ζ2,ζ1,[.str n.name,.sl .sh (n.cap.map encA),.sl .sh (n.labels.map encP),.sl .sh (n.taints.map encT),.bool n.cordon]],toks:=[],loops:=[]:Heap}) (fun T hT=>(ih' T hT)))
  ·by_cases h2:(c:Int)<m
   ·have e:leastS (countS s p) own (d::post) m=leastS (countS s p) own post (c:Int):=by simp only[leastS,if_neg h,hq,if_pos h2]
    rw[e]
    have ih':=ih (i+1) hnx (c:Int) (by omega) (by omega)
    exact let ζ1:List AV:=[.str p.name,.str p.owner,.int .i64 p.prio,.sl .sh (p.need.map encA),.sl .sh (p.labels.map encP),.sl .sh (p.sel.map encM),.sl .sh (p.tols.map encL),.str p.key,.int .i64 p.most,.str p.node,.bool p.hold];let ζ2:List AV:=[.sl .sh (s.nodes.map encN),.sl .sh (s.pods.map encPd),.sl .sh (s.buds.map encB)];gG 120 _ hT (.len (lM .sh .str ds)<|.yes (dT ((↑i:Int)<(↑ds.length:Int)))<|.idx hxi<|.callI hcd<|.idx hxi<|.yes (show(!d==own)=true from by have hh:¬((d==own)=true):=(by simpa using h);simp[hh])<|.yes (dT ((↑c:Int)<m))<|.bin (iI i)<|.cutQ k87_0 [(3,.ptr 0 0),(4,.ptr 1 0),(10,.str own),(12,.int .i64 here),(13,.int .i64 ↑c),(14,.sl .sh (List.map .str ds)),(15,.int .i64 (↑(i+1)))] ({boxes:=[ζ2,ζ1,[.str n.name,.sl .sh (n.cap.map encA),.sl .sh (n.labels.map encP),.sl .sh (n.taints.map encT),.bool n.cordon]],toks:=[],loops:=[]:Heap}) (fun T hT=>(ih' T hT)))
   ·have e:leastS (countS s p) own (d::post) m=leastS (countS s p) own post m:=by simp only[leastS,if_neg h,hq,if_neg h2]
    rw[e]
    have ih':=ih (i+1) hnx m hm hm2
    exact let ζ1:List AV:=[.str p.name,.str p.owner,.int .i64 p.prio,.sl .sh (p.need.map encA),.sl .sh (p.labels.map encP),.sl .sh (p.sel.map encM),.sl .sh (p.tols.map encL),.str p.key,.int .i64 p.most,.str p.node,.bool p.hold];let ζ2:List AV:=[.sl .sh (s.nodes.map encN),.sl .sh (s.pods.map encPd),.sl .sh (s.buds.map encB)];gG 120 _ hT (.len (lM .sh .str ds)<|.yes (dT ((↑i:Int)<(↑ds.length:Int)))<|.idx hxi<|.callI hcd<|.idx hxi<|.yes (show(!d==own)=true from by have hh:¬((d==own)=true):=(by simpa using h);simp[hh])<|.no (dF ((↑c:Int)<m))<|.bin (iI i)<|.cutQ k87_0 [(3,.ptr 0 0),(4,.ptr 1 0),(10,.str own),(12,.int .i64 here),(13,.int .i64 m),(14,.sl .sh (List.map .str ds)),(15,.int .i64 (↑(i+1)))] ({boxes:=[ζ2,ζ1,[.str n.name,.sl .sh (n.cap.map encA),.sl .sh (n.labels.map encP),.sl .sh (n.taints.map encT),.bool n.cordon]],toks:=[],loops:=[]:Heap}) (fun T hT=>(ih' T hT)))
theorem skewR(s:St)(p:Pod)(nm:List UInt8)(hp:s.pods.length≤1000)(hs:s.nodes.length≤500)(hl:∀n∈s.nodes,n.labels.length<9223372036854775807):
 Gives cfg 87 [encSt s,encPd p,.str nm] (.tuple [.int .i64 (skewS s p nm).1,.bool (skewS s p nm).2]):=by
 by_cases hk:p.key=[]
 ·have e:skewS s p nm=(0,true):=by unfold skewS;rw[if_pos hk]
  rw[e]
  refine Gives.run (l87 _ _) ?_
  exact gG 60 [] trivial (.yes (show(p.key==[])=true from(by simp[hk]))<|.fin ((.ret (.tuple [.int .i64 0,.bool true]),{boxes:=[[.sl .sh (s.nodes.map encN),.sl .sh (s.pods.map encPd),.sl .sh (s.buds.map encB)],[.str p.name,.str p.owner,.int .i64 p.prio,.sl .sh (p.need.map encA),.sl .sh (p.labels.map encP),.sl .sh (p.sel.map encM),.sl .sh (p.tols.map encL),.str p.key,.int .i64 p.most,.str p.node,.bool p.hold]],toks:=[],loops:=[]:Heap})) rfl)
 ·refine Gives.run (l87 _ _) ?_
  rcases dom_cases s nm p.key (by omega) hl with⟨-,h1,h2,h3⟩|⟨nd,h2,⟨h1,h3⟩|⟨own,h1,h3⟩⟩
  ·have e:skewS s p nm=(0,false):=by unfold skewS;rw[if_neg hk,h1]
   rw[e]
   exact let ζ1:List AV:=[.str [],.sl .sh [],.sl .sh [],.sl .sh [],.bool false];let ζ2:List AV:=[.sl .sh (s.nodes.map encN),.str nm];gG 120 [] trivial (.no (show(p.key==[])=false from Bool.eq_false_iff.2 (by simp+zetaDelta [hk]))<|.callK (ζ2) (.tuple [.agg ζ1,.bool false]) h2<|.callI h3<|.tt<|.tt<|.fin ((.ret (.tuple [.int .i64 0,.bool false]),{boxes:=[[.sl .sh (s.nodes.map encN),.sl .sh (s.pods.map encPd),.sl .sh (s.buds.map encB)],[.str p.name,.str p.owner,.int .i64 p.prio,.sl .sh (p.need.map encA),.sl .sh (p.labels.map encP),.sl .sh (p.sel.map encM),.sl .sh (p.tols.map encL),.str p.key,.int .i64 p.most,.str p.node,.bool p.hold],ζ1],toks:=[],loops:=[]:Heap})) rfl)
  ·have e:skewS s p nm=(0,false):=by unfold skewS;rw[if_neg hk,h1]
   rw[e]
   exact let ζ1:List AV:=[.str nd.name,.sl .sh (nd.cap.map encA),.sl .sh (nd.labels.map encP),.sl .sh (nd.taints.map encT),.bool nd.cordon];let ζ2:List AV:=[.sl .sh (nd.labels.map encP),.str p.key];let ζ3:List AV:=[.sl .sh (s.nodes.map encN),.str nm];gG 120 [] trivial (.no (show(p.key==[])=false from Bool.eq_false_iff.2 (by simp+zetaDelta [hk]))<|.callK (ζ3) (.tuple [.agg ζ1,.bool true]) h2<|.callK (ζ2) (.tuple [.str [],.bool false]) h3<|.ff<|.tt<|.fin ((.ret (.tuple [.int .i64 0,.bool false]),{boxes:=[[.sl .sh (s.nodes.map encN),.sl .sh (s.pods.map encPd),.sl .sh (s.buds.map encB)],[.str p.name,.str p.owner,.int .i64 p.prio,.sl .sh (p.need.map encA),.sl .sh (p.labels.map encP),.sl .sh (p.sel.map encM),.sl .sh (p.tols.map encL),.str p.key,.int .i64 p.most,.str p.node,.bool p.hold],ζ1],toks:=[],loops:=[]:Heap})) rfl)
  ·have e:skewS s p nm=((countS s p own:Int)+1-leastS (countS s p) own (domsS s p.key) ((countS s p own:Int)+1),true):=by unfold skewS;rw[if_neg hk,h1]
   rw[e]
   have hc:=fun d=>countR s p d hp (by omega) hl
   have hcl:countS s p own≤s.pods.length:=List.length_filter_le _ _
   have dl:=doms_len s p.key
   obtain⟨b,t,ds⟩:=domsR s p.key hs hl
   have hco:=hc own
   have lo:=skR_loop s p nd own (domsS s p.key) hc ((countS s p own:Int)+1) (by omega) (by omega) (domsS s p.key) 0 rfl ((countS s p own:Int)+1) (by omega) (by omega)
   generalize leastS (countS s p) own (domsS s p.key) ((countS s p own:Int)+1)=le at lo⊢
   generalize domsS s p.key=dd at*
   generalize countS s p own=c at*
   have ad:binA .add (.int .i64 (c:Int)) (.int .i64 1)=some (.int .i64 ((c:Int)+1)):=addI (by omega) (by omega)
   exact let ζ1:List AV:=[.str p.name,.str p.owner,.int .i64 p.prio,.sl .sh (p.need.map encA),.sl .sh (p.labels.map encP),.sl .sh (p.sel.map encM),.sl .sh (p.tols.map encL),.str p.key,.int .i64 p.most,.str p.node,.bool p.hold];let ζ2:List AV:=[.sl .sh (s.nodes.map encN),.sl .sh (s.pods.map encPd),.sl .sh (s.buds.map encB)];let ζ3:List AV:=[.str nd.name,.sl .sh (nd.cap.map encA),.sl .sh (nd.labels.map encP),.sl .sh (nd.taints.map encT),.bool nd.cordon];let ζ4:List AV:=[.sl .sh (nd.labels.map encP),.str p.key];let ζ5:List AV:=[.sl .sh (s.nodes.map encN),.str nm];gG 160 [] trivial (.no (show(p.key==[])=false from Bool.eq_false_iff.2 (by simp+zetaDelta [hk]))<|.callK (ζ5) (.tuple [.agg ζ3,.bool true]) h2<|.callK (ζ4) (.tuple [.str own,.bool true]) h3<|.ff<|.ff<|.callI hco<|.bin ad<|.callG ([.agg ζ2,.str p.key]) (.sl .sh (List.map .str dd)) ds ⟨rfl,rfl⟩ Res.p<|.cutQ k87_0 [(3,.ptr 0 0),(4,.ptr 1 0),(10,.str own),(12,.int .i64 ((↑c:Int)+(1:Int))),(13,.int .i64 ((↑c:Int)+(1:Int))),(14,.sl .sh (List.map .str dd)),(15,.int .i64 0)] ({boxes:=[ζ2,ζ1,ζ3],toks:=[],loops:=[]:Heap}) (fun T hT=>(lo T hT)))
theorem fit_ref(s:St)(hs:StIn s)(hn:∀n∈s.nodes,NdIn n)(hl5:s.nodes.length≤500)(hne:∀n∈s.nodes,n.name≠[])(p:Pod)(hp:PdIn p)(nm:List UInt8):
 Gives cfg 22 [encSt s,encPd p,.str nm] (.int .i64 (fitS s p nm)):=by
 refine Gives.run (l22 _ _) ?_
 have dr:=drop_ref s p.name hs.pods
 have hs2:=drop_inF hs p.name
 have f:=findN_ref (dropS s p.name).nodes nm hs.nodes
 have h83:=skewR (dropS s p.name) p nm hs2.pods hl5 fun n h=>(hn n h).labels
 unfold fitS fitG
 rw[show(dropS s p.name).nodes=s.nodes from rfl]at f⊢
 cases hf:findG Node.name s.nodes nm with
 |none=>
  rw[hf]at f
  simp only
  generalize hD:dropS s p.name=t at*
  have ht:t.nodes=s.nodes:=by rw[←hD];rfl
  rw[←ht]at f
  exact let ζ1:List AV:=[.sl .sh (t.nodes.map encN),.sl .sh (t.pods.map encPd),.sl .sh (t.buds.map encB)];let ζ2:List AV:=[.str [],.sl .sh [],.sl .sh [],.sl .sh [],.bool false];let ζ3:List AV:=[.sl .sh (t.nodes.map encN),.str nm];gG 160 [] trivial (.callI dr<|.callK (ζ3) (.tuple [.agg ζ2,.bool false]) f<|.tt<|.fin ((.ret (.int .i64 3),{boxes:=[ζ1,[.str p.name,.str p.owner,.int .i64 p.prio,.sl .sh (p.need.map encA),.sl .sh (p.labels.map encP),.sl .sh (p.sel.map encM),.sl .sh (p.tols.map encL),.str p.key,.int .i64 p.most,.str p.node,.bool p.hold],ζ2],toks:=[],loops:=[]:Heap})) rfl)
 |some n=>
  rw[hf]at f
  have hnm:=findG_mem hf
  have hni:=hn n hnm
  have en:n.name=nm:=by simpa using List.find?_some hf
  have hnn:nm≠[]:=by rw[←en];exact hne n hnm
  have mt:=match2 n.labels p.sel hni.labels hp.sel
  have w:=worstR p.tols n.taints hp.tols hni.taints
  obtain⟨c,fr⟩:=free_ref (dropS s p.name) nm hs2
  have efr:freeR (dropS s p.name) nm=freeS (dropS s p.name) nm:=by unfold freeR freeS;rw[used_same _ hnn]
  rw[efr]at fr
  have fi:=freeS_len (dropS s p.name) hs2 nm
  have ft:=fits_ref p.need (freeS (dropS s p.name) nm).1 hp.need (by omega)
  have hsk:p.key=[]→skewS (dropS s p.name) p nm=(0,true):=fun h=>by unfold skewS;rw[if_pos h]
  simp only
  generalize hD:dropS s p.name=t at*
  have ht:t.nodes=s.nodes:=by rw[←hD];rfl
  rw[←ht]at f
  generalize freeS t nm=u at fr ft fi⊢
  generalize skewS t p nm=sk at h83 hsk⊢
  obtain⟨u,e⟩:=u
  obtain⟨sk,ok⟩:=sk
  have fr:Gives cfg 38 [encSt t,.str nm] (resW c u e):=fr
  have ft:Gives cfg 88 [.sl .sh (p.need.map encA),.sl .sh (u.map encA)] (.bool (fitsV p.need u)):=ft
  have h83:Gives cfg 87 [encSt t,encPd p,.str nm] (.tuple [.int .i64 sk,.bool ok]):=h83
  simp only
  generalize fitsV p.need u=b at ft⊢
  cases hc:n.cordon with
  |true=>
   rw[if_neg (by simp)]
   exact let ζ1:List AV:=[.str n.name,.sl .sh (n.cap.map encA),.sl .sh (n.labels.map encP),.sl .sh (n.taints.map encT),.bool n.cordon];let ζ2:List AV:=[.sl .sh (t.nodes.map encN),.sl .sh (t.pods.map encPd),.sl .sh (t.buds.map encB)];let ζ3:List AV:=[.sl .sh (t.nodes.map encN),.str nm];gG 160 [] trivial (.callI dr<|.callK (ζ3) (.tuple [.agg ζ1,.bool true]) f<|.ff<|.yes (show(n.cordon)=true from(by exact hc))<|.tt<|.fin ((.ret (.int .i64 8),{boxes:=[ζ2,[.str p.name,.str p.owner,.int .i64 p.prio,.sl .sh (p.need.map encA),.sl .sh (p.labels.map encP),.sl .sh (p.sel.map encM),.sl .sh (p.tols.map encL),.str p.key,.int .i64 p.most,.str p.node,.bool p.hold],ζ1],toks:=[],loops:=[]:Heap})) rfl)
  |false=>
   cases hm:matchB n.labels p.sel with
   |false=>
    rw[hm]at mt
    rw[if_neg (by simp)]
    exact let ζ1:List AV:=[.str n.name,.sl .sh (n.cap.map encA),.sl .sh (n.labels.map encP),.sl .sh (n.taints.map encT),.bool n.cordon];let ζ2:List AV:=[.sl .sh (t.nodes.map encN),.sl .sh (t.pods.map encPd),.sl .sh (t.buds.map encB)];let ζ3:List AV:=[.sl .sh (p.sel.map encM),.sl .sh (n.labels.map encP)];let ζ4:List AV:=[.sl .sh (t.nodes.map encN),.str nm];gG 160 [] trivial (.callI dr<|.callK (ζ4) (.tuple [.agg ζ1,.bool true]) f<|.ff<|.no (show(n.cordon)=false from Bool.eq_false_iff.2 (by simp+zetaDelta [hc]))<|.callK (ζ3) (.bool false) mt<|.tt<|.fin ((.ret (.int .i64 8),{boxes:=[ζ2,[.str p.name,.str p.owner,.int .i64 p.prio,.sl .sh (p.need.map encA),.sl .sh (p.labels.map encP),.sl .sh (p.sel.map encM),.sl .sh (p.tols.map encL),.str p.key,.int .i64 p.most,.str p.node,.bool p.hold],ζ1],toks:=[],loops:=[]:Heap})) rfl)
   |true=>
    rw[hm]at mt
    rw[if_pos (by simp)]
    cases hw:worstB p.tols n.taints with
    |some x=>
     rw[hw]at w
     have w:Gives cfg 86 [.sl .sh (p.tols.map encL),.sl .sh (n.taints.map encT)] (.tuple [encT x,.bool true]):=w
     rw[if_pos (show(some x).isSome=true from rfl)]
     exact let ζ1:List AV:=[.str n.name,.sl .sh (n.cap.map encA),.sl .sh (n.labels.map encP),.sl .sh (n.taints.map encT),.bool n.cordon];let ζ2:List AV:=[.sl .sh (t.nodes.map encN),.sl .sh (t.pods.map encPd),.sl .sh (t.buds.map encB)];let ζ3:List AV:=[.sl .sh (p.tols.map encL),.sl .sh (n.taints.map encT)];let ζ4:List AV:=[.sl .sh (p.sel.map encM),.sl .sh (n.labels.map encP)];let ζ5:List AV:=[.sl .sh (t.nodes.map encN),.str nm];let ζ6:List AV:=[.str x.key,.str x.val,.bool x.hard];gG 200 [] trivial (.callI dr<|.callK (ζ5) (.tuple [.agg ζ1,.bool true]) f<|.ff<|.no (show(n.cordon)=false from Bool.eq_false_iff.2 (by simp+zetaDelta [hc]))<|.callK (ζ4) (.bool true) mt<|.ff<|.callK (ζ3) (.tuple [.agg ζ6,.bool true]) w<|.tt<|.fin ((.ret (.int .i64 9),{boxes:=[ζ2,[.str p.name,.str p.owner,.int .i64 p.prio,.sl .sh (p.need.map encA),.sl .sh (p.labels.map encP),.sl .sh (p.sel.map encM),.sl .sh (p.tols.map encL),.str p.key,.int .i64 p.most,.str p.node,.bool p.hold],ζ1,ζ6],toks:=[],loops:=[]:Heap})) rfl)
    |none=>
     rw[hw]at w
     have w:Gives cfg 86 [.sl .sh (p.tols.map encL),.sl .sh (n.taints.map encT)] (.tuple [encT noT,.bool false]):=w
     rw[if_neg (by simp)]
     by_cases hk:p.key=[]
     ·obtain⟨rfl,rfl⟩:sk=0∧ok=true:=by simpa using hsk hk
      rw[if_pos (by simp[hk])]
      by_cases he:e=0
      ·cases b with
       |true=>
        rw[if_pos (by simp[he])]
        exact let ζ1:List AV:=[.sl .sh (t.nodes.map encN),.sl .sh (t.pods.map encPd),.sl .sh (t.buds.map encB)];let ζ2:List AV:=[.str p.name,.str p.owner,.int .i64 p.prio,.sl .sh (p.need.map encA),.sl .sh (p.labels.map encP),.sl .sh (p.sel.map encM),.sl .sh (p.tols.map encL),.str p.key,.int .i64 p.most,.str p.node,.bool p.hold];let ζ3:List AV:=[.str n.name,.sl .sh (n.cap.map encA),.sl .sh (n.labels.map encP),.sl .sh (n.taints.map encT),.bool n.cordon];let ζ4:List AV:=[.sl .sh (p.tols.map encL),.sl .sh (n.taints.map encT)];let ζ5:List AV:=[.sl .sh (p.sel.map encM),.sl .sh (n.labels.map encP)];let ζ6:List AV:=[.sl .sh (p.need.map encA),.sl .sh (u.map encA)];let ζ7:List AV:=[.sl .sh (t.nodes.map encN),.str nm];let ζ8:List AV:=[.str [],.str [],.bool noT.hard];gG 240 [] trivial (.callI dr<|.callK (ζ7) (.tuple [.agg ζ3,.bool true]) f<|.ff<|.no (show(n.cordon)=false from Bool.eq_false_iff.2 (by simp+zetaDelta [hc]))<|.callK (ζ5) (.bool true) mt<|.ff<|.callK (ζ4) (.tuple [.agg ζ8,.bool false]) w<|.ff<|.callI h83<|.no (show(!p.key==[])=false from by have hh:(p.key==[])=true:=(by simp+zetaDelta [hk]);simp[hh])<|.ff<|.callG ([.agg ζ1,.str nm]) (.tuple [.sl .sh (u.map encA),.int .i64 e]) fr ⟨rfl,rfl⟩ Res.p<|.no (show(e !=(0:Int))=false from Bool.eq_false_iff.2 (by simp+zetaDelta [he]))<|.callK (ζ6) (.bool true) ft<|.ff<|.fin ((.ret (.int .i64 0),{boxes:=[ζ1,ζ2,ζ3,ζ8],toks:=[],loops:=[]:Heap})) rfl)
       |false=>
        rw[if_neg (by simp)]
        exact let ζ1:List AV:=[.sl .sh (t.nodes.map encN),.sl .sh (t.pods.map encPd),.sl .sh (t.buds.map encB)];let ζ2:List AV:=[.str p.name,.str p.owner,.int .i64 p.prio,.sl .sh (p.need.map encA),.sl .sh (p.labels.map encP),.sl .sh (p.sel.map encM),.sl .sh (p.tols.map encL),.str p.key,.int .i64 p.most,.str p.node,.bool p.hold];let ζ3:List AV:=[.str n.name,.sl .sh (n.cap.map encA),.sl .sh (n.labels.map encP),.sl .sh (n.taints.map encT),.bool n.cordon];let ζ4:List AV:=[.sl .sh (p.tols.map encL),.sl .sh (n.taints.map encT)];let ζ5:List AV:=[.sl .sh (p.sel.map encM),.sl .sh (n.labels.map encP)];let ζ6:List AV:=[.sl .sh (p.need.map encA),.sl .sh (u.map encA)];let ζ7:List AV:=[.sl .sh (t.nodes.map encN),.str nm];let ζ8:List AV:=[.str [],.str [],.bool noT.hard];gG 240 [] trivial (.callI dr<|.callK (ζ7) (.tuple [.agg ζ3,.bool true]) f<|.ff<|.no (show(n.cordon)=false from Bool.eq_false_iff.2 (by simp+zetaDelta [hc]))<|.callK (ζ5) (.bool true) mt<|.ff<|.callK (ζ4) (.tuple [.agg ζ8,.bool false]) w<|.ff<|.callI h83<|.no (show(!p.key==[])=false from by have hh:(p.key==[])=true:=(by simp+zetaDelta [hk]);simp[hh])<|.ff<|.callG ([.agg ζ1,.str nm]) (.tuple [.sl .sh (u.map encA),.int .i64 e]) fr ⟨rfl,rfl⟩ Res.p<|.no (show(e !=(0:Int))=false from Bool.eq_false_iff.2 (by simp+zetaDelta [he]))<|.callK (ζ6) (.bool false) ft<|.tt<|.fin ((.ret (.int .i64 7),{boxes:=[ζ1,ζ2,ζ3,ζ8],toks:=[],loops:=[]:Heap})) rfl)
      ·rw[if_neg (by simp[he])]
       exact let ζ1:List AV:=[.sl .sh (t.nodes.map encN),.sl .sh (t.pods.map encPd),.sl .sh (t.buds.map encB)];let ζ2:List AV:=[.str p.name,.str p.owner,.int .i64 p.prio,.sl .sh (p.need.map encA),.sl .sh (p.labels.map encP),.sl .sh (p.sel.map encM),.sl .sh (p.tols.map encL),.str p.key,.int .i64 p.most,.str p.node,.bool p.hold];let ζ3:List AV:=[.str n.name,.sl .sh (n.cap.map encA),.sl .sh (n.labels.map encP),.sl .sh (n.taints.map encT),.bool n.cordon];let ζ4:List AV:=[.sl .sh (p.tols.map encL),.sl .sh (n.taints.map encT)];let ζ5:List AV:=[.sl .sh (p.sel.map encM),.sl .sh (n.labels.map encP)];let ζ6:List AV:=[.sl .sh (t.nodes.map encN),.str nm];let ζ7:List AV:=[.str [],.str [],.bool noT.hard];gG 240 [] trivial (.callI dr<|.callK (ζ6) (.tuple [.agg ζ3,.bool true]) f<|.ff<|.no (show(n.cordon)=false from Bool.eq_false_iff.2 (by simp+zetaDelta [hc]))<|.callK (ζ5) (.bool true) mt<|.ff<|.callK (ζ4) (.tuple [.agg ζ7,.bool false]) w<|.ff<|.callI h83<|.no (show(!p.key==[])=false from by have hh:(p.key==[])=true:=(by simp+zetaDelta [hk]);simp[hh])<|.ff<|.callG ([.agg ζ1,.str nm]) (.tuple [.sl .sh (u.map encA),.int .i64 e]) fr ⟨rfl,rfl⟩ Res.p<|.yes (show(e !=(0:Int))=true from(by simp+zetaDelta [he]))<|.tt<|.fin ((.ret (.int .i64 7),{boxes:=[ζ1,ζ2,ζ3,ζ7],toks:=[],loops:=[]:Heap})) rfl)
     ·cases ok with
      |false=>
       rw[if_neg (by simp)]
       exact let ζ1:List AV:=[.str p.name,.str p.owner,.int .i64 p.prio,.sl .sh (p.need.map encA),.sl .sh (p.labels.map encP),.sl .sh (p.sel.map encM),.sl .sh (p.tols.map encL),.str p.key,.int .i64 p.most,.str p.node,.bool p.hold];let ζ2:List AV:=[.sl .sh (t.nodes.map encN),.sl .sh (t.pods.map encPd),.sl .sh (t.buds.map encB)];let ζ3:List AV:=[.str n.name,.sl .sh (n.cap.map encA),.sl .sh (n.labels.map encP),.sl .sh (n.taints.map encT),.bool n.cordon];let ζ4:List AV:=[.sl .sh (p.tols.map encL),.sl .sh (n.taints.map encT)];let ζ5:List AV:=[.sl .sh (p.sel.map encM),.sl .sh (n.labels.map encP)];let ζ6:List AV:=[.sl .sh (t.nodes.map encN),.str nm];let ζ7:List AV:=[.str [],.str [],.bool noT.hard];gG 240 [] trivial (.callI dr<|.callK (ζ6) (.tuple [.agg ζ3,.bool true]) f<|.ff<|.no (show(n.cordon)=false from Bool.eq_false_iff.2 (by simp+zetaDelta [hc]))<|.callK (ζ5) (.bool true) mt<|.ff<|.callK (ζ4) (.tuple [.agg ζ7,.bool false]) w<|.ff<|.callI h83<|.yes (show(!p.key==[])=true from by have hh:¬((p.key==[])=true):=(by simp+zetaDelta [hk]);simp[hh])<|.tt<|.tt<|.fin ((.ret (.int .i64 10),{boxes:=[ζ2,ζ1,ζ3,ζ7],toks:=[],loops:=[]:Heap})) rfl)
      |true=>
       by_cases hq:sk≤p.most
       ·rw[if_pos (by simp[hq])]
        by_cases he:e=0
        ·cases b with
         |true=>
          rw[if_pos (by simp[he])]
          exact let ζ1:List AV:=[.sl .sh (t.nodes.map encN),.sl .sh (t.pods.map encPd),.sl .sh (t.buds.map encB)];let ζ2:List AV:=[.str p.name,.str p.owner,.int .i64 p.prio,.sl .sh (p.need.map encA),.sl .sh (p.labels.map encP),.sl .sh (p.sel.map encM),.sl .sh (p.tols.map encL),.str p.key,.int .i64 p.most,.str p.node,.bool p.hold];let ζ3:List AV:=[.str n.name,.sl .sh (n.cap.map encA),.sl .sh (n.labels.map encP),.sl .sh (n.taints.map encT),.bool n.cordon];let ζ4:List AV:=[.sl .sh (p.tols.map encL),.sl .sh (n.taints.map encT)];let ζ5:List AV:=[.sl .sh (p.sel.map encM),.sl .sh (n.labels.map encP)];let ζ6:List AV:=[.sl .sh (p.need.map encA),.sl .sh (u.map encA)];let ζ7:List AV:=[.sl .sh (t.nodes.map encN),.str nm];let ζ8:List AV:=[.str [],.str [],.bool noT.hard];gG 240 [] trivial (.callI dr<|.callK (ζ7) (.tuple [.agg ζ3,.bool true]) f<|.ff<|.no (show(n.cordon)=false from Bool.eq_false_iff.2 (by simp+zetaDelta [hc]))<|.callK (ζ5) (.bool true) mt<|.ff<|.callK (ζ4) (.tuple [.agg ζ8,.bool false]) w<|.ff<|.callI h83<|.yes (show(!p.key==[])=true from by have hh:¬((p.key==[])=true):=(by simp+zetaDelta [hk]);simp[hh])<|.ff<|.no (dF (p.most<sk))<|.callG ([.agg ζ1,.str nm]) (.tuple [.sl .sh (u.map encA),.int .i64 e]) fr ⟨rfl,rfl⟩ Res.p<|.no (show(e !=(0:Int))=false from Bool.eq_false_iff.2 (by simp+zetaDelta [he]))<|.callK (ζ6) (.bool true) ft<|.ff<|.fin ((.ret (.int .i64 0),{boxes:=[ζ1,ζ2,ζ3,ζ8],toks:=[],loops:=[]:Heap})) rfl)
         |false=>
          rw[if_neg (by simp)]
          exact let ζ1:List AV:=[.sl .sh (t.nodes.map encN),.sl .sh (t.pods.map encPd),.sl .sh (t.buds.map encB)];let ζ2:List AV:=[.str p.name,.str p.owner,.int .i64 p.prio,.sl .sh (p.need.map encA),.sl .sh (p.labels.map encP),.sl .sh (p.sel.map encM),.sl .sh (p.tols.map encL),.str p.key,.int .i64 p.most,.str p.node,.bool p.hold];let ζ3:List AV:=[.str n.name,.sl .sh (n.cap.map encA),.sl .sh (n.labels.map encP),.sl .sh (n.taints.map encT),.bool n.cordon];let ζ4:List AV:=[.sl .sh (p.tols.map encL),.sl .sh (n.taints.map encT)];let ζ5:List AV:=[.sl .sh (p.sel.map encM),.sl .sh (n.labels.map encP)];let ζ6:List AV:=[.sl .sh (p.need.map encA),.sl .sh (u.map encA)];let ζ7:List AV:=[.sl .sh (t.nodes.map encN),.str nm];let ζ8:List AV:=[.str [],.str [],.bool noT.hard];gG 240 [] trivial (.callI dr<|.callK (ζ7) (.tuple [.agg ζ3,.bool true]) f<|.ff<|.no (show(n.cordon)=false from Bool.eq_false_iff.2 (by simp+zetaDelta [hc]))<|.callK (ζ5) (.bool true) mt<|.ff<|.callK (ζ4) (.tuple [.agg ζ8,.bool false]) w<|.ff<|.callI h83<|.yes (show(!p.key==[])=true from by have hh:¬((p.key==[])=true):=(by simp+zetaDelta [hk]);simp[hh])<|.ff<|.no (dF (p.most<sk))<|.callG ([.agg ζ1,.str nm]) (.tuple [.sl .sh (u.map encA),.int .i64 e]) fr ⟨rfl,rfl⟩ Res.p<|.no (show(e !=(0:Int))=false from Bool.eq_false_iff.2 (by simp+zetaDelta [he]))<|.callK (ζ6) (.bool false) ft<|.tt<|.fin ((.ret (.int .i64 7),{boxes:=[ζ1,ζ2,ζ3,ζ8],toks:=[],loops:=[]:Heap})) rfl)
        ·rw[if_neg (by simp[he])]
         exact let ζ1:List AV:=[.sl .sh (t.nodes.map encN),.sl .sh (t.pods.map encPd),.sl .sh (t.buds.map encB)];let ζ2:List AV:=[.str p.name,.str p.owner,.int .i64 p.prio,.sl .sh (p.need.map encA),.sl .sh (p.labels.map encP),.sl .sh (p.sel.map encM),.sl .sh (p.tols.map encL),.str p.key,.int .i64 p.most,.str p.node,.bool p.hold];let ζ3:List AV:=[.str n.name,.sl .sh (n.cap.map encA),.sl .sh (n.labels.map encP),.sl .sh (n.taints.map encT),.bool n.cordon];let ζ4:List AV:=[.sl .sh (p.tols.map encL),.sl .sh (n.taints.map encT)];let ζ5:List AV:=[.sl .sh (p.sel.map encM),.sl .sh (n.labels.map encP)];let ζ6:List AV:=[.sl .sh (t.nodes.map encN),.str nm];let ζ7:List AV:=[.str [],.str [],.bool noT.hard];gG 240 [] trivial (.callI dr<|.callK (ζ6) (.tuple [.agg ζ3,.bool true]) f<|.ff<|.no (show(n.cordon)=false from Bool.eq_false_iff.2 (by simp+zetaDelta [hc]))<|.callK (ζ5) (.bool true) mt<|.ff<|.callK (ζ4) (.tuple [.agg ζ7,.bool false]) w<|.ff<|.callI h83<|.yes (show(!p.key==[])=true from by have hh:¬((p.key==[])=true):=(by simp+zetaDelta [hk]);simp[hh])<|.ff<|.no (dF (p.most<sk))<|.callG ([.agg ζ1,.str nm]) (.tuple [.sl .sh (u.map encA),.int .i64 e]) fr ⟨rfl,rfl⟩ Res.p<|.yes (show(e !=(0:Int))=true from(by simp+zetaDelta [he]))<|.tt<|.fin ((.ret (.int .i64 7),{boxes:=[ζ1,ζ2,ζ3,ζ7],toks:=[],loops:=[]:Heap})) rfl)
       ·rw[if_neg (by simp[hk,hq])]
        exact let ζ1:List AV:=[.str p.name,.str p.owner,.int .i64 p.prio,.sl .sh (p.need.map encA),.sl .sh (p.labels.map encP),.sl .sh (p.sel.map encM),.sl .sh (p.tols.map encL),.str p.key,.int .i64 p.most,.str p.node,.bool p.hold];let ζ2:List AV:=[.sl .sh (t.nodes.map encN),.sl .sh (t.pods.map encPd),.sl .sh (t.buds.map encB)];let ζ3:List AV:=[.str n.name,.sl .sh (n.cap.map encA),.sl .sh (n.labels.map encP),.sl .sh (n.taints.map encT),.bool n.cordon];let ζ4:List AV:=[.sl .sh (p.tols.map encL),.sl .sh (n.taints.map encT)];let ζ5:List AV:=[.sl .sh (p.sel.map encM),.sl .sh (n.labels.map encP)];let ζ6:List AV:=[.sl .sh (t.nodes.map encN),.str nm];let ζ7:List AV:=[.str [],.str [],.bool noT.hard];gG 240 [] trivial (.callI dr<|.callK (ζ6) (.tuple [.agg ζ3,.bool true]) f<|.ff<|.no (show(n.cordon)=false from Bool.eq_false_iff.2 (by simp+zetaDelta [hc]))<|.callK (ζ5) (.bool true) mt<|.ff<|.callK (ζ4) (.tuple [.agg ζ7,.bool false]) w<|.ff<|.callI h83<|.yes (show(!p.key==[])=true from by have hh:¬((p.key==[])=true):=(by simp+zetaDelta [hk]);simp[hh])<|.ff<|.yes (dT (p.most<sk))<|.fin ((.ret (.int .i64 10),{boxes:=[ζ2,ζ1,ζ3,ζ7],toks:=[],loops:=[]:Heap})) rfl)
end Go.Aa.T
