import Derived.Test.YthlhlfiklmmenaaGreatDoorYsanp
import Derived.Shelf.Sort.Plain
import Derived.Shelf.Slices.In.SortNone
import Derived.Shelf.Small.Strs
import Derived.Shelf.Spec.SlicesInsertGrow
import Derived.JoinedOf
set_option linter.unusedVariables false
set_option linter.unusedSimpArgs false
set_option maxRecDepth 100000
namespace Go.Aa.T
open Go.Aa Go.Proofs
instance(x y:AV)(l:List AV) [hx:Lr x] [hy:Lr y]:qO (.agg [x,y,.sl .sh l]):=⟨by
 refine⟨?_,?_⟩
 ·show AV.agg [eW x,eW y,eW (.sl .sh l)]=_
  rw[hx.p.Il,hy.p.Il];rfl
 ·show(bI x&&(bI y&&(bI (.sl .sh l)&&true)))=true
  rw[hx.p.d0,hy.p.d0];rfl⟩
def jB(l:List Int)(w:Int):Bool:=l.any fun x=>x==w
theorem H6(l:List Int)(w:Int)(hn:l.length<9223372036854775807):∀(post:List Int)(i:Nat)(hd:l.drop i=post)(T:Env)
 (hT:Has T [(0,.sl .sh (l.map bC)),(1,.int .i64 w),(7,.int .i64 l.length),(8,.int .i64 i)]),
 bA cfg IS zE T Heap.nil (aJ (.int .i64 (bF (fun x=>x==w) post i))):=by
 intro post
 induction post with
 |nil=>
  intro i hd T hT
  have hge:=bf hd
  exact gG 60 _ hT (.no (dF ((↑i:Int)<(↑l.length:Int)))<|.fin ((.ret (.int .i64 (-1:Int)),{boxes:=[],toks:=[],loops:=[]:Heap})) rfl)
 |cons x post ih=>
  intro i hd T hT
  have hlt:=bg hd
  have cq:=aL hd
  have cn:cc 1 (.sl .sh (l.map bC)) (.int .i64 (i:Nat))=some (.ref [.int .i64 x]):=bx (f:=bC) hd rfl
  by_cases h:w=x
  ·have e:bF (fun x=>x==w) (x::post) i=i:=by simp[bF,h]
   rw[e]
   exact gG 60 _ hT (.yes (dT ((↑i:Int)<(↑l.length:Int)))<|.idx cn<|.yes (show(w==x)=true from(by simpa using h))<|.fin ((.ret (.int .i64 ↑i),{boxes:=[],toks:=[],loops:=[]:Heap})) rfl)
  ·have h':¬x=w:=fun e=>h e.symm
   have e:bF (fun x=>x==w) (x::post) i=bF (fun x=>x==w) post (i+1):=by simp[bF,h']
   rw[e]
   exact gG 60 _ hT (.yes (dT ((↑i:Int)<(↑l.length:Int)))<|.idx cn<|.no (show(w==x)=false from Bool.eq_false_iff.2 (by simpa using h))<|.bin (iI i)<|.aT zE [(0,.sl .sh (l.map bC)),(1,.int .i64 w),(7,.int .i64 (↑l.length)),(8,.int .i64 (↑(i+1)))] ({boxes:=[],toks:=[],loops:=[]:Heap}) (fun T hT=>(ih (i+1) cq T hT)))
theorem Kq(l:List Int)(w:Int)(hn:l.length<9223372036854775807):aq cfg 69 [.sl .sh (l.map bC),.int .i64 w] (.bool (jB l w)):=by
 refine aq.run (Yi _ _) ?_
 have h0:aq cfg 135 [.sl .sh (l.map bC),.int .i64 w] (.int .i64 (bF (fun x=>x==w) l 0)):=by
  refine aq.run (TZ _ _) ?_
  have h:=H6 l w hn l 0 rfl
  exact gG 60 [] trivial (.len (lM .sh bC l)<|.aT zE [(0,.sl .sh (l.map bC)),(1,.int .i64 w),(7,.int .i64 (↑l.length)),(8,.int .i64 0)] ({boxes:=[],toks:=[],loops:=[]:Heap}) (fun T hT=>(h T hT)))
 have hf:decide (0≤bF (fun x=>x==w) l 0)=jB l w:=gV _ l 0
 rw[←hf]
 generalize bF (fun x=>x==w) l 0=c at h0⊢
 exact let ag:List AV:=[.sl .sh (l.map bC),.int .i64 w];gG 60 [] trivial (.aG (ag) (.int .i64 c) h0<|.fin ((.ret (.bool (decide ((0:Int)≤c))),{boxes:=[],toks:=[],loops:=[]:Heap})) rfl)
def vD(on:List Int):Nat→List Int→Int
 |_,[]=>0
 |i,w::post=>if w<1∨5<w then 1 else if jB (on.take i) w=true then 6 else vD on (i+1) post
def Oa(on:List Int):Int:=if on.length≤8 then vD on 0 on else 4
theorem H7(C0 C1:AV)(on:List Int)(hn:on.length≤1000):∀(post:List Int)(i:Nat)(hd:on.drop i=post)(T:Env)
 (hT:Has T [(0,.ptr 0 0),(9,.sl .sh (on.map bC)),(10,.int .i64 on.length),(11,.int .i64 i)]),
 bA cfg O7 Gd T ⟨[[C0,C1,.sl .sh (on.map bC)]],[],[]⟩ (Q6 (vD on i post)):=by
 intro post
 induction post with
 |nil=>
  intro i hd T hT
  have hge:=bf hd
  exact gG 60 _ hT (.no (dF ((↑i:Int)<(↑on.length:Int)))<|.fin ((.ret (.tuple []),{boxes:=[[C0,C1,.sl .sh (on.map bC)]],toks:=[],loops:=[]:Heap})) (by exact .inl ⟨rfl,rfl⟩))
 |cons x post ih=>
  intro i hd T hT
  have hlt:=bg hd
  have cq:=aL hd
  have cn:cc 1 (.sl .sh (on.map bC)) (.int .i64 (i:Nat))=some (.ref [.int .i64 x]):=bx (f:=bC) hd rfl
  have sl:=qS (f:=bC) (l:=on) (es:=1) (k:=i) (q:=.i64) (sk:=.sh) (by omega) rfl (fun _=>rfl)
  have ct:=Kq (on.take i) x (by rw[List.length_take];omega)
  have s1:kf cfg 68 [.int .i64 1] (iA 1):=gj (by decide)
  have s6:kf cfg 68 [.int .i64 6] (iA 6):=gj (by decide)
  have e:vD on i (x::post)=if x<1∨5<x then 1 else if jB (on.take i) x=true then 6 else vD on (i+1) post:=rfl
  rw[e]
  by_cases h1:x<1
  ·rw[if_pos (.inl h1)]
   exact gG 90 _ hT (.yes (dT ((↑i:Int)<(↑on.length:Int)))<|.idx cn<|.yes (dT (x<(1:Int)))<|.tt<|.jP ([.int .i64 1]) ({boxes:=[[C0,C1,.sl .sh (on.map bC)]],toks:=[],loops:=[]:Heap}) s1 ⟨rfl,rfl⟩ rfl (by exact .inr ⟨by decide,rfl⟩))
  ·by_cases h2:5<x
   ·rw[if_pos (.inr h2)]
    exact gG 90 _ hT (.yes (dT ((↑i:Int)<(↑on.length:Int)))<|.idx cn<|.no (dF (x<(1:Int)))<|.yes (dT ((5:Int)<x))<|.jP ([.int .i64 1]) ({boxes:=[[C0,C1,.sl .sh (on.map bC)]],toks:=[],loops:=[]:Heap}) s1 ⟨rfl,rfl⟩ rfl (by exact .inr ⟨by decide,rfl⟩))
   ·rw[if_neg (by omega)]
    cases hj:jB (on.take i) x with
    |true=>
     rw[hj]at ct
     rw[if_pos rfl]
     exact let ag:List AV:=[.sl .sh (List.map bC (List.take i on)),.int .i64 x];gG 90 _ hT (.yes (dT ((↑i:Int)<(↑on.length:Int)))<|.idx cn<|.no (dF (x<(1:Int)))<|.no (dF ((5:Int)<x))<|.slice sl<|.aG (ag) (.bool true) ct<|.tt<|.jP ([.int .i64 6]) ({boxes:=[[C0,C1,.sl .sh (on.map bC)]],toks:=[],loops:=[]:Heap}) s6 ⟨rfl,rfl⟩ rfl (by exact .inr ⟨by decide,rfl⟩))
    |false=>
     rw[hj]at ct
     rw[if_neg (by decide)]
     have cQ:=ih (i+1) cq
     exact let ag:List AV:=[.sl .sh (List.map bC (List.take i on)),.int .i64 x];gG 90 _ hT (.yes (dT ((↑i:Int)<(↑on.length:Int)))<|.idx cn<|.no (dF (x<(1:Int)))<|.no (dF ((5:Int)<x))<|.slice sl<|.aG (ag) (.bool false) ct<|.ff<|.bin (iI i)<|.aT Gd [(0,.ptr 0 0),(9,.sl .sh (on.map bC)),(10,.int .i64 (↑on.length)),(11,.int .i64 (↑(i+1)))] ({boxes:=[[C0,C1,.sl .sh (on.map bC)]],toks:=[],loops:=[]:Heap}) (fun T hT=>(cQ T hT)))
theorem Kr{lo hi:AV}(hl:Fl lo)(hh:Fl hi)(on:List Int)(hn:on.length≤1000):aq cfg 28 [.agg [lo,hi,.sl .sh (on.map bC)]] (.int .i64 (Oa on)):=by
 haveI:=hl.C
 haveI:=hh.C
 refine aq.run (XW _ _) ?_
 have key:bA cfg O7 [.c Tu] (ay [.ptr 0 0]) ⟨[[lo,hi,.sl .sh (on.map bC)]],[],[]⟩ (Q6 (Oa on)):=by
  unfold Oa
  by_cases h:on.length≤8
  ·rw[if_pos h]
   have lo':=H7 lo hi on hn on 0 rfl
   exact gG 90 [] trivial (.len (lM .sh bC on)<|.no (dF ((8:Int)<(↑on.length:Int)))<|.len (lM .sh bC on)<|.aT Gd [(0,.ptr 0 0),(9,.sl .sh (on.map bC)),(10,.int .i64 (↑on.length)),(11,.int .i64 0)] ({boxes:=[[lo,hi,.sl .sh (on.map bC)]],toks:=[],loops:=[]:Heap}) (fun T hT=>(lo' T hT)))
  ·rw[if_neg h]
   have s4:kf cfg 68 [.int .i64 4] (iA 4):=gj (by decide)
   exact gG 90 [] trivial (.len (lM .sh bC on)<|.yes (dT ((8:Int)<(↑on.length:Int)))<|.jP ([.int .i64 4]) ({boxes:=[[lo,hi,.sl .sh (on.map bC)]],toks:=[],loops:=[]:Heap}) s4 ⟨rfl,rfl⟩ rfl (by exact .inr ⟨by decide,rfl⟩))
 obtain⟨⟨a,H1⟩,hr,hR⟩:=key
 generalize Oa on=e at hR⊢
 have ht:lim cfg (.fn 66) [.func 67 [.ptr 0 0]] ⟨[[lo,hi,.sl .sh (on.map bC)]],[],[]⟩=some (.ret (.int .i64 e),H1):=by
  rw[ke rfl,Yh,hr]
  rcases hR with⟨h0,h1⟩|⟨h0,h1⟩
  ·simp only at h1;subst h1;subst h0;rfl
  ·simp only at h1;subst h1;rfl
 have hd:=bU (xs:=[.func 67 [.ptr 0 0]]) (caps:=[]) ht rfl rfl
 generalize de _ _ _ H1=H2 at hd
 exact gG 60 [] trivial (.cw hd<|.fin ((.ret (.int .i64 e),H2)) rfl)
theorem DE(C0 C1:AV)(on:List Int)(hn:on.length≤1000)(i:Nat)(x:Int)(hx:on[i]?=some x)(R:cZ×Heap→Prop)(hyes:jB (on.take i) x=true→∀H,R (.ret (.int .i64 6),H))
 (K:jB (on.take i) x=false→∀T,Has T [(1,.ptr 0 0),(3,.int .i64 ((i+1:Nat):Int))]→bA cfg Ot A9 T ⟨[[C0,C1,.sl .sh (on.map bC)]],[],[]⟩ R):
 ∀(m j:Nat)(hm:j+m=i)(hb:jB (on.take j) x=false)(T:Env)(hT:Has T [(1,.ptr 0 0),(3,.int .i64 i),(4,.int .i64 j)]),
 bA cfg Ot F3 T ⟨[[C0,C1,.sl .sh (on.map bC)]],[],[]⟩ R:=by
 have IF:=(List.getElem?_eq_some_iff.1 hx).1
 have cn:cc 1 (.sl .sh (on.map bC)) (.int .i64 (i:Nat))=some (.ref [.int .i64 x]):=fN (f:=bC) hx rfl
 have H8:=fK (i:=i) (by omega)
 intro m
 induction m with
 |zero=>
  intro j hm hb T hT
  have hji:j=i:=by omega
  subst hji
  have k:=K hb
  exact gG 90 _ hT (.no (dF ((↑j:Int)<(↑j:Int)))<|.bin H8<|.aT A9 [(1,.ptr 0 0),(3,.int .i64 (↑(j+1):Int))] ({boxes:=[[C0,C1,.sl .sh (on.map bC)]],toks:=[],loops:=[]:Heap}) (fun T hT=>(k T hT)))
 |succ m ih=>
  intro j hm hb T hT
  obtain⟨y,hy⟩:∃y,on[j]?=some y:=⟨on[j]'(by omega),List.getElem?_eq_getElem (by omega)⟩
  have Lu:cc 1 (.sl .sh (on.map bC)) (.int .i64 (j:Nat))=some (.ref [.int .i64 y]):=fN (f:=bC) hy rfl
  have VB:=fK (i:=j) (by omega)
  have ht:on.take (j+1)=on.take j++[y]:=by
   obtain⟨hl,rfl⟩:=List.getElem?_eq_some_iff.1 hy
   exact List.take_succ_eq_append_getElem hl
  by_cases h:y=x
  ·have hj:jB (on.take i) x=true:=by
    refine List.any_eq_true.2 ⟨y,?_,by simpa using h⟩
    exact List.mem_take_iff_getElem.2 ⟨j,by omega,(List.getElem?_eq_some_iff.1 hy).2⟩
   have ye:=hyes hj
   exact gG 120 _ hT (.yes (dT ((↑j:Int)<(↑i:Int)))<|.idx Lu<|.idx cn<|.yes (show(y==x)=true from(by simpa using h))<|.fin ((.ret (.int .i64 6),{boxes:=[[C0,C1,.sl .sh (on.map bC)]],toks:=[],loops:=[]:Heap})) (by exact ye _))
  ·have cQ:=ih (j+1) (by omega) (by
    rw[ht]
    unfold jB at hb⊢
    rw[List.any_append,hb]
    simpa using h)
   exact gG 120 _ hT (.yes (dT ((↑j:Int)<(↑i:Int)))<|.idx Lu<|.idx cn<|.no (show(y==x)=false from Bool.eq_false_iff.2 (by simpa using h))<|.bin VB<|.aT F3 [(1,.ptr 0 0),(3,.int .i64 ↑i),(4,.int .i64 (↑(j+1):Int))] ({boxes:=[[C0,C1,.sl .sh (on.map bC)]],toks:=[],loops:=[]:Heap}) (fun T hT=>(cQ T hT)))
theorem H9(C0 C1:AV)(on:List Int)(hn:on.length≤1000):∀(post:List Int)(i:Nat)(hd:on.drop i=post)(T:Env)(hT:Has T [(1,.ptr 0 0),(3,.int .i64 i)]),
 bA cfg Ot A9 T ⟨[[C0,C1,.sl .sh (on.map bC)]],[],[]⟩ (aJ (.int .i64 (vD on i post))):=by
 intro post
 induction post with
 |nil=>
  intro i hd T hT
  have hge:=bf hd
  exact gG 60 _ hT (.len (lM .sh bC on)<|.no (dF ((↑i:Int)<(↑on.length:Int)))<|.fin ((.ret (.int .i64 0),{boxes:=[[C0,C1,.sl .sh (on.map bC)]],toks:=[],loops:=[]:Heap})) rfl)
 |cons x post ih=>
  intro i hd T hT
  have hlt:=bg hd
  have cq:=aL hd
  have cn:cc 1 (.sl .sh (on.map bC)) (.int .i64 (i:Nat))=some (.ref [.int .i64 x]):=bx (f:=bC) hd rfl
  have e:vD on i (x::post)=if x<1∨5<x then 1 else if jB (on.take i) x=true then 6 else vD on (i+1) post:=rfl
  rw[e]
  by_cases h1:x<1
  ·rw[if_pos (.inl h1)]
   exact gG 90 _ hT (.len (lM .sh bC on)<|.yes (dT ((↑i:Int)<(↑on.length:Int)))<|.idx cn<|.yes (dT (x<(1:Int)))<|.tt<|.fin ((.ret (.int .i64 1),{boxes:=[[C0,C1,.sl .sh (on.map bC)]],toks:=[],loops:=[]:Heap})) rfl)
  ·by_cases h2:5<x
   ·rw[if_pos (.inr h2)]
    exact gG 90 _ hT (.len (lM .sh bC on)<|.yes (dT ((↑i:Int)<(↑on.length:Int)))<|.idx cn<|.no (dF (x<(1:Int)))<|.idx cn<|.yes (dT ((5:Int)<x))<|.fin ((.ret (.int .i64 1),{boxes:=[[C0,C1,.sl .sh (on.map bC)]],toks:=[],loops:=[]:Heap})) rfl)
   ·rw[if_neg (by omega)]
    have Ob:=DE C0 C1 on hn i x (drop_at hd) (aJ (.int .i64 (if jB (on.take i) x=true then 6 else vD on (i+1) post))) (fun h H=>by rw[if_pos h];rfl)
     (fun h T hT=>by rw[if_neg (by simp[h])];exact ih (i+1) cq T hT) i 0 (by omega) rfl
    exact gG 90 _ hT (.len (lM .sh bC on)<|.yes (dT ((↑i:Int)<(↑on.length:Int)))<|.idx cn<|.no (dF (x<(1:Int)))<|.idx cn<|.no (dF ((5:Int)<x))<|.aT F3 [(1,.ptr 0 0),(3,.int .i64 ↑i),(4,.int .i64 0)] ({boxes:=[[C0,C1,.sl .sh (on.map bC)]],toks:=[],loops:=[]:Heap}) (fun T hT=>(Ob T hT)))
theorem Ks{lo hi:AV}(hl:Fl lo)(hh:Fl hi)(on:List Int)(hn:on.length≤1000):aq cfg 27 [.agg [lo,hi,.sl .sh (on.map bC)]] (.int .i64 (Oa on)):=by
 haveI:=hl.C
 haveI:=hh.C
 refine aq.run (XV _ _) ?_
 unfold Oa
 by_cases h:on.length≤8
 ·rw[if_pos h]
  have lo':=H9 lo hi on hn on 0 rfl
  exact gG 90 [] trivial (.len (lM .sh bC on)<|.no (dF ((8:Int)<(↑on.length:Int)))<|.aT A9 [(1,.ptr 0 0),(3,.int .i64 0)] ({boxes:=[[lo,hi,.sl .sh (on.map bC)]],toks:=[],loops:=[]:Heap}) (fun T hT=>(lo' T hT)))
 ·rw[if_neg h]
  exact gG 90 [] trivial (.len (lM .sh bC on)<|.yes (dT ((8:Int)<(↑on.length:Int)))<|.fin ((.ret (.int .i64 4),{boxes:=[[lo,hi,.sl .sh (on.map bC)]],toks:=[],loops:=[]:Heap})) rfl)
theorem R0{lo hi:AV}(hl:Fl lo)(hh:Fl hi)(k:SK)(l:List AV)(H:Heap):cv cfg (.build [.bQ 0,.bQ 0,.sl .full []] [(0,2,.c (.agg [lo,hi])),(2,1,.c (.sl k l))]) H (.agg [lo,hi,.sl k l]) H:=fun T=>by
 cases hl<;>cases hh<;>rfl
theorem VC{lo hi:AV}(hl:Fl lo)(hh:Fl hi)(X:Type)(l:List X)(m:List AV)(S:List AV)(tk:List Nat):cv cfg (.store 3 (.c (.ptr 1 0)) (.c (.agg [lo,hi,.sl (dS l) m]))) ⟨[S,[.bQ 0,.bQ 0,.sl .full []]],tk,[]⟩ .undef ⟨[S,[lo,hi,.sl (dS l) m]],tk,[]⟩:=fun T=>by
 cases l<;>cases hl<;>cases hh<;>rfl
instance{X:Type}(x y:AV)(l:List X)(m:List AV) [hx:Lr x] [hy:Lr y]:mO (.agg [x,y,.sl (dS l) m]) (.agg [x,y,.sl .sh m]):=⟨by
 refine⟨?_,?_⟩
 ·show AV.agg [eW x,eW y,eW (.sl (dS l) m)]=_
  rw[hx.p.Il,hy.p.Il]
  cases l<;>rfl
 ·show(bI x&&(bI y&&(bI (.sl .sh m)&&true)))=true
  rw[hx.p.d0,hy.p.d0];rfl⟩
theorem VD(on:List Int)(hn:on.length≤100000)(bs:List (List AV)):bw 1 8 ⟨bs,[],[]⟩ (.sl .full []) (.sl .sh (on.map bC))=some (.sl (dS on) (on.map bC),⟨bs,bY bC on,[]⟩):=by
 cases on with
 |nil=>rfl
 |cons x l=>
  have h1:cE 1 ((x::l).map bC)=true:=dY fun _=>rfl
  have h2:dH ((x::l).map bC)=true:=List.all_eq_true.2 fun y hy=>by
   obtain⟨z,-,rfl⟩:=List.mem_map.1 hy
   rfl
  simp only[List.map_cons]at h1 h2⊢
  simp only[bw]
  rw[if_pos ⟨by simp only[List.length_nil,List.length_cons,List.length_map]at hn⊢;omega,rfl,h1,h2⟩]
  simp only[vn,List.nil_append,List.length_nil,List.length_cons,List.length_map,Nat.zero_add]
  rfl
theorem Kt{lo hi:AV}(hl:Fl lo)(hh:Fl hi)(on:List Int)(hn:on.length≤1000):aq cfg 26 [.agg [lo,hi,.sl .sh (on.map bC)]] (.agg [lo,hi,.sl (dS on) (on.map bC)]):=by
 haveI:=hl.C
 haveI:=hh.C
 refine aq.run (XU _ _) ?_
 have m:=HT hl hh
 have ap:=VD on (by omega)
 have bc:=R0 hl hh (dS on) (on.map bC)
 have st:=VC hl hh Int on (on.map bC) [lo,hi,.sl .sh (on.map bC)] (bY bC on)
 exact let ag:Heap:={boxes:=[[lo,hi,.sl .sh (on.map bC)],[AV.bQ 0,AV.bQ 0,.sl .full []]],toks:=bY bC on,loops:=[]:Heap};let ax:Heap:={boxes:=[[lo,hi,.sl .sh (on.map bC)],[lo,hi,.sl (dS on) (on.map bC)]],toks:=bY bC on,loops:=[]:Heap};gG 90 [] trivial (.bE ([.agg [lo,hi]]) (.agg [lo,hi]) m cA.p fe.p<|.append (show bw 1 8 {boxes:=[[lo,hi,.sl .sh (on.map bC)],[AV.bQ 0,AV.bQ 0,.sl .full []]],toks:=[],loops:=[]:Heap} (.sl .full []) (.sl .sh (on.map bC))=some ((.sl (dS on) (on.map bC),ag))from ap _)<|.cw st<|.fin ((.ret (.agg [lo,hi,.sl (dS on) (on.map bC)]),ax)) rfl)
end Go.Aa.T
namespace Go.Aa.T
open Go.Aa Go.Proofs
abbrev jX:=List UInt8×Int
def bM(f:jX):AV:=.agg [.str f.1,.int .i64 f.2]
def DF(out:List jX)(nm:List UInt8):Bool:=out.any fun f=>f.1==nm
def nU(out:List jX)(why:Int)(nm:List UInt8):List jX:=if DF out nm=true then out else out++[(nm,why)]
def vG(why:Int):List jX→List (List UInt8)→List jX
 |out,[]=>out
 |out,nm::l=>vG why (nU out why nm) l
def DG(s:St)(lo hi:AV):List jX→List Int→List jX
 |out,[]=>out
 |out,w::l=>DG s lo hi (vG w out (jo s lo hi w)) l
theorem rU(out:List jX)(why:Int)(nm:List UInt8):(nU out why nm).length≤out.length+1:=by
 unfold nU
 split
 ·omega
 ·simp
theorem pX(why:Int):∀(l:List (List UInt8))(out:List jX),(vG why out l).length≤out.length+l.length
 |[],out=>Nat.le_refl _
 |nm::l,out=>by
  have h1:=pX why l (nU out why nm)
  have h2:=rU out why nm
  rw[vG,List.length_cons];omega
theorem AD{xs ys caps:List AV}{g:FuncId}{v:AV}{H H2:Heap}(h:lim cfg (.fn g) (ys++caps) H=some (.ret v,H2))(hx:xs.map bz=ys)(hd:(ys.all bK&&caps.all bI)=false):
 cv cfg (.call (.c (.func g caps)) (xs.map .c)) H (bz v) (de H.boxes.length H.toks.length (bz v) H2):=fun T=>by
 have e:(xs.map dX.c).map (fun x=>bz (ev T x))=ys:=by rw[List.map_map];exact hx
 simp only[aR,e]
 rw[show ev T (.c (.func g caps))=.func g caps from rfl]
 simp only[en,hd,Bool.false_eq_true,if_false,eD,h]
section
variable{H:Heap}{g:FuncId}{k:Nat}{p:jX→Bool}
theorem AE(hd:∀y:jX,cv cfg (.call (.c (.func g [.ptr k 0])) [.c (bM y)]) H (.bool (p y)) H)(l:List jX)(hn:l.length<9223372036854775807):∀(post:List jX)(i:Nat)(gU:l.drop i=post)(T:Env)
 (hT:Has T [(0,.sl .sh (l.map bM)),(1,.func g [.ptr k 0]),(7,.int .i64 l.length),(8,.int .i64 i)]),
 bA cfg EP zF T H (fun r=>r=(.ret (.int .i64 (bF p post i)),H)):=by
 intro post
 induction post with
 |nil=>
  intro i gU T hT
  have hge:=bf gU
  exact gG 60 _ hT (.no (dF ((↑i:Int)<(↑l.length:Int)))<|.fin ((.ret (.int .i64 (-1:Int)),H)) rfl)
 |cons x post ih=>
  intro i gU T hT
  have hlt:=bg gU
  have cq:=aL gU
  have nI:=hd x
  cases hp:p x with
  |true=>
   rw[hp]at nI
   have e:bF p (x::post) i=i:=by simp[bF,hp]
   rw[e]
   exact gG 60 _ hT (.yes (dT ((↑i:Int)<(↑l.length:Int)))<|.idx (iR 2 bM gU)<|.load (rfl:ak true 2 H (.ref [.str x.fst,.int .i64 x.snd])=some (.agg [.str x.fst,.int .i64 x.snd]))<|.cw nI<|.tt<|.fin ((.ret (.int .i64 ↑i),H)) rfl)
  |false=>
   rw[hp]at nI
   have e:bF p (x::post) i=bF p post (i+1):=by simp[bF,hp]
   rw[e]
   exact gG 60 _ hT (.yes (dT ((↑i:Int)<(↑l.length:Int)))<|.idx (iR 2 bM gU)<|.load (rfl:ak true 2 H (.ref [.str x.fst,.int .i64 x.snd])=some (.agg [.str x.fst,.int .i64 x.snd]))<|.cw nI<|.ff<|.bin (iI i)<|.aT zF [(0,.sl .sh (l.map bM)),(1,.func g [.ptr k 0]),(7,.int .i64 (↑l.length)),(8,.int .i64 (↑(i+1)))] (H) (fun T hT=>(ih (i+1) cq T hT)))
theorem R1(hd:∀y:jX,cv cfg (.call (.c (.func g [.ptr k 0])) [.c (bM y)]) H (.bool (p y)) H)(l:List jX)(hn:l.length<9223372036854775807):
 cv cfg (.call (.c (.func 77 [])) [.c (cB bM l),.c (.func g [.ptr k 0])]) H (.bool (l.any p)) H:=by
 have hl:lim cfg (.fn 150) [.sl .sh (l.map bM),.func g [.ptr k 0]] H=some (.ret (.int .i64 (bF p l 0)),H):=by
  rw[Ue]
  have h:=AE hd l hn l 0 rfl
  have key:bA cfg EP [.c Ms] (ay [.sl .sh (l.map bM),.func g [.ptr k 0]]) H (fun r=>r=(.ret (.int .i64 (bF p l 0)),H)):=by
   exact gG 60 [] trivial (.len (lM .sh bM l)<|.aT zF [(0,.sl .sh (l.map bM)),(1,.func g [.ptr k 0]),(7,.int .i64 (↑l.length)),(8,.int .i64 0)] (H) (fun T hT=>(h T hT)))
  obtain⟨r,h,rfl⟩:=key
  exact h
 have h0:=bU (xs:=[.sl .sh (l.map bM),.func g [.ptr k 0]]) (caps:=[]) hl rfl rfl
 rw[show bz (.int .i64 (bF p l 0))=.int .i64 (bF p l 0)from rfl,dc]at h0
 have hf:decide (0≤bF p l 0)=l.any p:=gV p l 0
 have key:bA cfg Sy [.c Tx] (ay [.sl .sh (l.map bM),.func g [.ptr k 0]]) H (fun r=>r=(.ret (.bool (l.any p)),H)):=by
  rw[←hf]
  generalize bF p l 0=c at h0
  exact gG 60 [] trivial (.cw h0<|.fin ((.ret (.bool (decide ((0:Int)≤c))),H)) rfl)
 obtain⟨r,h,rfl⟩:=key
 have h2:lim cfg (.fn 77) ([.sl .sh (l.map bM),.func g [.ptr k 0]]++[]) H=some (.ret (.bool (l.any p)),H):=by
  rw[Yp];exact h
 have h3:=AD (xs:=[cB bM l,.func g [.ptr k 0]]) h2 (by cases l<;>rfl) rfl
 rwa [show bz (.bool (l.any p))=.bool (l.any p)from rfl,dc]at h3
end
theorem VE(S:List AV)(hS:S.all bI=true){lo hi:AV}(hl:Fl lo)(hh:Fl hi)(L:List AV)(tk:List Nat)(ex:List (List AV))(he:ex.all (·.all bI)=true)(nm:List UInt8)(x:jX):
 cv cfg (.call (.c (.func 78 [.ptr (ex.length+2) 0])) [.c (bM x)]) ⟨S::[lo,hi,.sl .sh L]::(ex++[[.str nm]]),tk,[]⟩ (.bool (x.1==nm)) ⟨S::[lo,hi,.sl .sh L]::(ex++[[.str nm]]),tk,[]⟩:=by
 have key:bA cfg Sz [.c Tz] (ay [bM x,.ptr (ex.length+2) 0]) ⟨S::[lo,hi,.sl .sh L]::(ex++[[.str nm]]),tk,[]⟩ (fun r=>r=(.ret (.bool (x.1==nm)),⟨S::[lo,hi,.sl .sh L]::(ex++[[.str nm]]++[(bM x).cells]),tk,[]⟩)):=by
  exact let ag:Heap:={boxes:=S::[lo,hi,.sl .sh L]::(ex++[[AV.str nm]]++[[AV.str x.fst,.int .i64 x.snd]]),toks:=tk,loops:=[]:Heap};gG 120 [] trivial (.load (show ak false 1 ag (.ptr (S::[lo,hi,.sl .sh L]::(ex++[[AV.str nm]])).length 0)=some (.str x.fst)from ah (cs:=[.str x.fst,.int .i64 x.snd]) (by simp+zetaDelta) rfl)<|.load (lB false 1 ag (ex.length+2) 0 (.str nm) [.str nm])<|.fin ((.ret (.bool (x.fst==nm)),ag)) rfl)
 obtain⟨r,h1,rfl⟩:=key
 refine gP (ex:=[(bM x).cells]) (by rw[show [bM x]++[AV.ptr (ex.length+2) 0]=[bM x,.ptr (ex.length+2) 0]from rfl,Yq,h1];simp) rfl ?_
 rw[List.all_cons,List.all_cons,List.all_append,hS,he]
 show(true&&(((Go.Aa.bI lo&&(Go.Aa.bI hi&&true)))&&true))=true
 rw[hl.d0,hh.d0];rfl
theorem R2{acc:List jX}(x:jX)(hn:acc.length≤100000)(bs:List (List AV))(ls:List jk):
 bw 2 24 ⟨bs,bY bM acc,ls⟩ (cB bM acc) (.sl .full [bM x])=some (cB bM (acc++[x]),⟨bs,bY bM (acc++[x]),ls⟩):=
 gp bM (x:=x) (by simp;omega) (dY fun _=>rfl) rfl rfl
theorem Ia(s:St){lo hi:AV}(hl:Fl lo)(hh:Fl hi)(on:List Int)(sg:on.length≤1000)(i:Nat)(hi2:i≤1000)(w:Int)(names:List (List UInt8))(hn:names.length≤1000)(nV:List jX)(ho:nV.length≤50000)(R:cZ×Heap→Prop)
 (K:∀(ex:List (List AV)),ex.all (·.all bI)=true→∀(T:Env),Has T [(2,.ptr 0 0),(3,.ptr 1 0),(5,cB bM (vG w nV names)),(11,.sl .sh (on.map bC)),(12,.int .i64 on.length),(13,.int .i64 ((i+1:Nat):Int))]→
   bA cfg a32 A' T ⟨(aB s).cells::[lo,hi,.sl .sh (on.map bC)]::ex,bY bM (vG w nV names),[]⟩ R):
 ∀(post:List (List UInt8))(j:Nat)(hd:names.drop j=post)(out:List jX)(hol:out.length≤nV.length+j)(he:vG w out post=vG w nV names)(ex:List (List AV))(hex:ex.all (·.all bI)=true)(T:Env)
 (hT:Has T [(2,.ptr 0 0),(3,.ptr 1 0),(5,cB bM out),(7,.int .i64 w),(11,.sl .sh (on.map bC)),(12,.int .i64 on.length),(13,.int .i64 i),(21,.sl .sh (names.map .str)),(22,.int .i64 names.length),(23,.int .i64 j)]),
 bA cfg a32 Bb T ⟨(aB s).cells::[lo,hi,.sl .sh (on.map bC)]::ex,bY bM out,[]⟩ R:=by
 haveI:=hl.C
 haveI:=hh.C
 have H8:=fK (i:=i) (by omega)
 intro post
 induction post with
 |nil=>
  intro j hd out hol he ex hex T hT
  have hge:=bf hd
  have he':out=vG w nV names:=he
  have k:=K ex hex
  rw[←he']at k
  exact gG 90 _ hT (.no (dF ((↑j:Int)<(↑names.length:Int)))<|.bin H8<|.aT A' [(2,.ptr 0 0),(3,.ptr 1 0),(5,.sl (dS out) (out.map bM)),(11,.sl .sh (on.map bC)),(12,.int .i64 (↑on.length)),(13,.int .i64 (↑(i+1)))] ({boxes:=[.sl .sh (s.nodes.map aA),.sl .sh (s.aj.map af),.sl .sh (s.aY.map aP)]::[lo,hi,.sl .sh (on.map bC)]::ex,toks:=bY bM out,loops:=[]:Heap}) (fun T hT=>(k T hT)))
 |cons x post ih=>
  intro j hd out hol he ex hex T hT
  have hlt:=bg hd
  have cq:=aL hd
  have an:=R1 (fun y=>VE (aB s).cells (BG s) hl hh (on.map bC) (bY bM out) ex hex x y) out (by omega)
  have ap:=R2 (acc:=out) (x,w) (by omega)
  have al:=rU out w x
  have cQ:=ih (j+1) cq (nU out w x) (by omega) he (ex++[[.str x]]) (by rw[List.all_append,hex];rfl)
  have e:(out.any fun y=>y.1==x)=DF out x:=rfl
  rw[e]at an
  cases h:DF out x with
  |true=>
   rw[h]at an
   rw[show nU out w x=out by unfold nU;rw[if_pos h]]at cQ
   exact let ag:List AV:=[.sl .sh (s.nodes.map aA),.sl .sh (s.aj.map af),.sl .sh (s.aY.map aP)];let ax:Heap:={boxes:=(aB s).cells::[lo,hi,.sl .sh (on.map bC)]::(ex++[[AV.str x]]),toks:=bY bM out,loops:=[]:Heap};let aS:Heap:={boxes:=ag::[lo,hi,.sl .sh (on.map bC)]::(ex++[[AV.str x]]),toks:=bY bM out,loops:=[]:Heap};gG 160 _ hT (.yes (dT ((↑j:Int)<(↑names.length:Int)))<|.idx (show cc 1 (.sl .sh (List.map .str names)) (.int .i64 ↑j)=some (.ref (AV.str x).cells)from bx hd (by rfl))<|.load (rfl:ak false 1 {boxes:=ag::[lo,hi,.sl .sh (on.map bC)]::ex,toks:=bY bM out,loops:=[]:Heap} (.ref [.str x])=some (.str x))<|.store (show aW 1 {boxes:=ag::[lo,hi,.sl .sh (on.map bC)]::(ex++[[AV.str []]]),toks:=bY bM out,loops:=[]:Heap} (.ptr (ag::[lo,hi,.sl .sh (on.map bC)]::ex).length 0) (.str x)=some (aS)from aC (cs:=[.str []]) (cs':=[.str x]) (by simp+zetaDelta) rfl (by simp+zetaDelta [List.set_append]))<|.cw an<|.ff<|.bin (iI j)<|.aT Bb [(2,.ptr 0 0),(3,.ptr 1 0),(5,.sl (dS out) (out.map bM)),(7,.int .i64 w),(11,.sl .sh (on.map bC)),(12,.int .i64 (↑on.length)),(13,.int .i64 ↑i),(21,.sl .sh (List.map .str names)),(22,.int .i64 (↑names.length)),(23,.int .i64 (↑(j+1):Int))] (aS) (fun T hT=>(cQ T hT)))
  |false=>
   rw[h]at an
   rw[show nU out w x=out++[(x,w)]by unfold nU;rw[if_neg (by simp[h])]]at cQ
   exact let ag:List AV:=[.sl .sh (s.nodes.map aA),.sl .sh (s.aj.map af),.sl .sh (s.aY.map aP)];let ax:Heap:={boxes:=ag::[lo,hi,.sl .sh (on.map bC)]::(ex++[[AV.str x]]),toks:=bY bM out,loops:=[]:Heap};let aS:Heap:={boxes:=ag::[lo,hi,.sl .sh (on.map bC)]::(ex++[[AV.str x]]),toks:=bY bM (out++[(x,w)]),loops:=[]:Heap};let bt:Heap:={boxes:=(aB s).cells::[lo,hi,.sl .sh (on.map bC)]::(ex++[[AV.str x]]),toks:=bY bM out,loops:=[]:Heap};gG 160 _ hT (.yes (dT ((↑j:Int)<(↑names.length:Int)))<|.idx (show cc 1 (.sl .sh (List.map .str names)) (.int .i64 ↑j)=some (.ref (AV.str x).cells)from bx hd (by rfl))<|.load (rfl:ak false 1 {boxes:=ag::[lo,hi,.sl .sh (on.map bC)]::ex,toks:=bY bM out,loops:=[]:Heap} (.ref [.str x])=some (.str x))<|.store (show aW 1 {boxes:=ag::[lo,hi,.sl .sh (on.map bC)]::(ex++[[AV.str []]]),toks:=bY bM out,loops:=[]:Heap} (.ptr (ag::[lo,hi,.sl .sh (on.map bC)]::ex).length 0) (.str x)=some (ax)from aC (cs:=[.str []]) (cs':=[.str x]) (by simp+zetaDelta) rfl (by simp+zetaDelta [List.set_append]))<|.cw an<|.tt<|.load (show ak false 1 ax (.ptr (ag::[lo,hi,.sl .sh (on.map bC)]::ex).length 0)=some (.str x)from ah (cs:=[.str x]) (by simp+zetaDelta) rfl)<|.append (show bw 2 24 ax (.sl (dS out) (out.map bM)) (.sl .full [.agg [.str x,.int .i64 w]])=some ((cB bM (out++[(x,w)]),aS))from ap _ _)<|.bin (iI j)<|.aT Bb [(2,.ptr 0 0),(3,.ptr 1 0),(5,.sl (dS (out++[(x,w)])) (List.map bM (out++[(x,w)]))),(7,.int .i64 w),(11,.sl .sh (on.map bC)),(12,.int .i64 (↑on.length)),(13,.int .i64 ↑i),(21,.sl .sh (List.map .str names)),(22,.int .i64 (↑names.length)),(23,.int .i64 (↑(j+1):Int))] (aS) (fun T hT=>(cQ T hT)))
theorem Ku(s:St)(h:vF s){lo hi:AV}(hl:Fl lo)(hh:Fl hi)(on:List Int)(sg:on.length≤40)(L:List jX):∀(post:List Int)(i:Nat)(hd:on.drop i=post)(out:List jX)(ho:out.length≤i*1000)(he:DG s lo hi out post=L)(ex:List (List AV))(hex:ex.all (·.all bI)=true)(T:Env)
 (hT:Has T [(2,.ptr 0 0),(3,.ptr 1 0),(5,cB bM out),(11,.sl .sh (on.map bC)),(12,.int .i64 on.length),(13,.int .i64 i)]),
 bA cfg a32 A' T ⟨(aB s).cells::[lo,hi,.sl .sh (on.map bC)]::ex,bY bM out,[]⟩ (aJ (cB bM L)):=by
 haveI:=hl.C
 haveI:=hh.C
 intro post
 induction post with
 |nil=>
  intro i hd out ho he ex hex T hT
  have hge:=bf hd
  have he':out=L:=he
  subst he'
  exact gG 90 _ hT (.no (dF ((↑i:Int)<(↑on.length:Int)))<|.fin ((.ret (.sl (dS out) (out.map bM)),{boxes:=[.sl .sh (s.nodes.map aA),.sl .sh (s.aj.map af),.sl .sh (s.aY.map aP)]::[lo,hi,.sl .sh (on.map bC)]::ex,toks:=bY bM out,loops:=[]:Heap})) rfl)
 |cons w post ih=>
  intro i hd out ho he ex hex T hT
  have hlt:=bg hd
  have cq:=aL hd
  have cn:cc 1 (.sl .sh (on.map bC)) (.int .i64 (i:Nat))=some (.ref [.int .i64 w]):=bx (f:=bC) hd rfl
  have o:=BL s h hl hh w
  have ol:=nT s lo hi w
  have hp:=h.ins.aj
  have il:=pX w (jo s lo hi w) out
  have Ob:=Ia s hl hh on (by omega) i (by omega) w (jo s lo hi w) (by omega) out (by omega) (aJ (cB bM L)) (fun ex hex T hT=>ih (i+1) cq (vG w out (jo s lo hi w)) (by omega) he ex hex T hT)
   (jo s lo hi w) 0 rfl out (by omega) rfl ex hex
  generalize jo s lo hi w=nm at o Ob
  exact let ax:List AV:=[.sl .sh (s.nodes.map aA),.sl .sh (s.aj.map af),.sl .sh (s.aY.map aP)];let ag:Heap:={boxes:=ax::[lo,hi,.sl .sh (on.map bC)]::ex,toks:=bY bM out,loops:=[]:Heap};gG 160 _ hT (.yes (dT ((↑i:Int)<(↑on.length:Int)))<|.idx cn<|.load (rfl:ak false 1 ag (.ref [.int .i64 w])=some (.int .i64 w))<|.load (lB true 3 ag 0 0 (.agg ax) ax)<|.load (lB true 2 ag 1 0 (.agg [lo,hi]) [lo,hi,.sl .sh (on.map bC)])<|.bE ([.agg ax,.int .i64 w,.agg [lo,hi]]) (.sl .sh (List.map .str nm)) o cA.p fe.p<|.len (lM .sh .str nm)<|.aT Bb [(2,.ptr 0 0),(3,.ptr 1 0),(5,.sl (dS out) (out.map bM)),(7,.int .i64 w),(11,.sl .sh (on.map bC)),(12,.int .i64 (↑on.length)),(13,.int .i64 ↑i),(21,.sl .sh (List.map .str nm)),(22,.int .i64 (↑nm.length)),(23,.int .i64 0)] (ag) (fun T hT=>(Ob T hT)))
theorem Oc(s:St)(h:vF s){lo hi:AV}(hl:Fl lo)(hh:Fl hi)(on:List Int)(sg:on.length≤40):aq cfg 32 [aB s,.agg [lo,hi,.sl .sh (on.map bC)]] (cB bM (DG s lo hi [] on)):=by
 haveI:=hl.C
 haveI:=hh.C
 refine aq.run (X0 _ _) ?_
 have lo':=Ku s h hl hh on sg (DG s lo hi [] on) on 0 rfl [] (by simp) rfl [] rfl
 have e:cB bM ([]:List jX)=.sl .full []:=rfl
 rw[e,jI]at lo'
 generalize DG s lo hi [] on=L at*
 exact gG 90 [] trivial (.len (lM .sh bC on)<|.aT A' [(2,.ptr 0 0),(3,.ptr 1 0),(5,.sl .full []),(11,.sl .sh (on.map bC)),(12,.int .i64 (↑on.length)),(13,.int .i64 0)] ({boxes:=[[.sl .sh (s.nodes.map aA),.sl .sh (s.aj.map af),.sl .sh (s.aY.map aP)],[lo,hi,.sl .sh (on.map bC)]],toks:=[],loops:=[]:Heap}) (fun T hT=>(lo' T hT)))
end Go.Aa.T
namespace Go.Aa.T
open Go.Aa Go.Proofs
theorem Kv{u c:Int}(h0:0≤u)(h:0<c)(hu:u≤9223372036854775807)(hc:c≤9223372036854775807):cls (x6 u c)=if u=0 then 3 else 4:=by
 rw[J0 (by omega) (by omega),if_neg (by omega)]
 by_cases e:u=0
 ·rw[if_pos e,if_pos e,if_neg (by omega)]
 ·rw[if_neg e,if_neg e,if_neg]
  have a:decide (u<0)=false:=by simpa using h0
  have b:decide (c<0)=false:=by simpa using(by omega:0≤c)
  rw[a,b];decide
structure Us(x:AV):Prop where
 ex:∃u c:Int,x=x6 u c∧0≤u∧u≤c∧0<c∧c≤9223372036854775807
theorem Us.cls{x:AV}(h:Us x):cls x=3∨Go.Aa.T.cls x=4:=by
 obtain⟨u,c,rfl,h0,h1,h2,h3⟩:=h.ex
 rw[Kv h0 h2 (by omega) h3]
 split<;>simp
end Go.Aa.T
namespace Go.Aa.T
open Go.Aa Go.Proofs
theorem nW:aq cfg 25 [] (.bool true):=by
 obtain⟨H',h⟩:=xm
 exact⟨_,h,rfl⟩
theorem YQ{s:St}(fs:Dh s)(r:Q7 s):vF s:=⟨Q8 fs r,by have:=fs.nodes;omega,Vy fs,N3 fs,fun p hp=>N4 (fs.SJ p hp)⟩
end Go.Aa.T
namespace Go.Aa.T
open Go.Aa Go.Proofs
def Lx{X:Type}:List X→SK
 |[]=>.full
 |_::_=>.own 1
instance{X:Type}(l:List X)(xs:List AV):mO (.sl (Lx l) xs) (.sl .sh xs):=⟨by cases l<;>exact⟨rfl,rfl⟩⟩
def rV(l:List jX):AV:=.sl (Lx l) (l.map bM)
instance(l:List jX):mO (rV l) (.sl .sh (l.map bM)):=⟨by cases l<;>exact⟨rfl,rfl⟩⟩
def DI(n:Nat):List Nat:=if n=0 then []else [n,n]
def R3(n:Nat):List Nat:=if n=0 then [1]else [n+1,n]
theorem Od{had:List (List UInt8)}{n:Nat}(x:List UInt8)(hn:had.length=n)(h:n≤100000)(bs:List (List AV)):
 bw 1 16 ⟨bs,DI n,[]⟩ (cB .str had) (.sl .full [.str x])=some (cB .str (had++[x]),⟨bs,R3 n,[]⟩):=by
 subst hn
 have h1:cE 1 (had.map AV.str)=true:=dY fun _=>rfl
 cases had with
 |nil=>rfl
 |cons y l=>
  simp only[cB,dS,List.map_cons,List.length_cons,DI,R3,bw]at h h1⊢
  rw[if_pos ⟨by simp only[List.length_map,List.length_nil];omega,h1,rfl,rfl⟩]
  simp only[Nat.add_one_ne_zero,if_false,List.getElem?_cons_zero,List.length_map,List.map_cons,List.cons_append,List.map_append,List.map_nil,List.set_cons_zero,if_true,List.length_nil,Nat.zero_add]
theorem Oe{out:List jX}{n:Nat}(x:jX)(hn:out.length=n)(h:n≤100000)(bs:List (List AV)):
 bw 2 24 ⟨bs,R3 n,[]⟩ (rV out) (.sl .full [bM x])=some (rV (out++[x]),⟨bs,DI (n+1),[]⟩):=by
 subst hn
 have h1:cE 2 (out.map bM)=true:=dY fun _=>rfl
 cases out with
 |nil=>rfl
 |cons y l=>
  simp only[rV,Lx,List.map_cons,List.length_cons,DI,R3,bw]at h h1⊢
  rw[if_pos ⟨by simp only[List.length_map,List.length_nil];omega,h1,rfl,rfl⟩]
  simp only[Nat.add_one_ne_zero,if_false,List.getElem?_cons_succ,List.getElem?_cons_zero,List.length_map,List.map_cons,List.cons_append,List.map_append,List.map_nil,List.set_cons_succ,List.set_cons_zero,if_true,List.length_nil,Nat.zero_add]
def kG(out:List jX):List (List UInt8):=out.map (·.1)
theorem Ib(out:List jX):(kG out).length=out.length:=by simp[kG]
theorem Kw(out:List jX)(nm:List UInt8):vC (kG out) nm=DF out nm:=by
 unfold vC kG DF
 rw[List.any_map];rfl
theorem Ic(S C0 C1:AV)(Sc:List AV)(on:List Int)(sg:on.length≤1000)(i:Nat)(hi2:i<on.length)(w:Int)(hw:on[i]?=some w)(names:List (List UInt8))(hn:names.length≤1000)(nV:List jX)(ho:nV.length≤50000)(R:cZ×Heap→Prop)
 (K:∀(T:Env),Has T [(2,.ptr 0 0),(3,.ptr 1 0),(5,rV (vG w nV names)),(6,cB .str (kG (vG w nV names))),(7,.int .i64 ((i+1:Nat):Int))]→
   bA cfg L8 Bc T ⟨[Sc,[C0,C1,.sl .sh (on.map bC)]],DI (vG w nV names).length,[]⟩ R):
 ∀(post:List (List UInt8))(j:Nat)(hd:names.drop j=post)(out:List jX)(hol:out.length≤nV.length+j)(he:vG w out post=vG w nV names)(T:Env)
 (hT:Has T [(2,.ptr 0 0),(3,.ptr 1 0),(5,rV out),(6,cB .str (kG out)),(7,.int .i64 i),(8,.sl .sh (names.map .str)),(9,.int .i64 j)]),
 bA cfg L8 xo T ⟨[Sc,[C0,C1,.sl .sh (on.map bC)]],DI out.length,[]⟩ R:=by
 have H8:=fK (i:=i) (by omega)
 have hwi:cc 1 (.sl .sh (on.map bC)) (.int .i64 (i:Nat))=some (.ref [.int .i64 w]):=fN (f:=bC) hw rfl
 intro post
 induction post with
 |nil=>
  intro j hd out hol he T hT
  have hge:=bf hd
  have he':out=vG w nV names:=he
  have k:=K
  rw[←he']at k
  exact gG 90 _ hT (.len (lM .sh .str names)<|.no (dF ((↑j:Int)<(↑names.length:Int)))<|.bin H8<|.aT Bc [(2,.ptr 0 0),(3,.ptr 1 0),(5,.sl (Lx out) (out.map bM)),(6,.sl (dS (kG out)) (List.map .str (kG out))),(7,.int .i64 (↑(i+1)))] ({boxes:=[Sc,[C0,C1,.sl .sh (on.map bC)]],toks:=DI out.length,loops:=[]:Heap}) (fun T hT=>(k T hT)))
 |cons x post ih=>
  intro j hd out hol he T hT
  have hlt:=bg hd
  have cq:=aL hd
  have cn:cc 1 (.sl .sh (names.map .str)) (.int .i64 (j:Nat))=some (.ref [.str x]):=bx (f:=AV.str) hd rfl
  have nl:=Ib out
  have nm:=HV (kG out) x (by omega)
  rw[Kw]at nm
  have cQ:=ih (j+1) cq (nU out w x) (by have:=rU out w x;omega) he
  cases h:DF out x with
  |true=>
   rw[h]at nm
   rw[show nU out w x=out by unfold nU;rw[if_pos h]]at cQ
   generalize kG out=had at*
   exact gG 160 _ hT (.len (lM .sh .str names)<|.yes (dT ((↑j:Int)<(↑names.length:Int)))<|.idx cn<|.bE ([.sl (dS had) (List.map .str had),.str x]) (.bool true) nm cA.p ⟨rfl,rfl⟩<|.ff<|.bin (iI j)<|.aT xo [(2,.ptr 0 0),(3,.ptr 1 0),(5,.sl (Lx out) (out.map bM)),(6,.sl (dS had) (List.map .str had)),(7,.int .i64 ↑i),(8,.sl .sh (List.map .str names)),(9,.int .i64 (↑(j+1):Int))] ({boxes:=[Sc,[C0,C1,.sl .sh (on.map bC)]],toks:=DI out.length,loops:=[]:Heap}) (fun T hT=>(cQ T hT)))
  |false=>
   rw[h]at nm
   rw[show nU out w x=out++[(x,w)]by unfold nU;rw[if_neg (by simp[h])],show kG (out++[(x,w)])=kG out++[x]by simp[kG],List.length_append]at cQ
   have cQ:∀T,_→bA cfg L8 xo T ⟨[Sc,[C0,C1,.sl .sh (on.map bC)]],DI (out.length+1),[]⟩ R:=cQ
   have a1:=Od (had:=kG out) x nl (by omega) [Sc,[C0,C1,.sl .sh (on.map bC)]]
   have a2:=Oe (out:=out) (x,w) rfl (by omega) [Sc,[C0,C1,.sl .sh (on.map bC)]]
   generalize kG out=had at*
   exact let ag:Heap:={boxes:=[Sc,[C0,C1,.sl .sh (on.map bC)]],toks:=R3 out.length,loops:=[]:Heap};gG 160 _ hT (.len (lM .sh .str names)<|.yes (dT ((↑j:Int)<(↑names.length:Int)))<|.idx cn<|.bE ([.sl (dS had) (List.map .str had),.str x]) (.bool false) nm cA.p ⟨rfl,rfl⟩<|.tt<|.idx cn<|.append a1<|.idx cn<|.idx hwi<|.append a2<|.bin (iI j)<|.aT xo [(2,.ptr 0 0),(3,.ptr 1 0),(5,.sl (Lx (out++[(x,w)])) (List.map bM (out++[(x,w)]))),(6,.sl (dS (had++[x])) (List.map .str (had++[x]))),(7,.int .i64 ↑i),(8,.sl .sh (List.map .str names)),(9,.int .i64 (↑(j+1):Int))] ({boxes:=[Sc,[C0,C1,.sl .sh (on.map bC)]],toks:=[out.length+1,out.length+1],loops:=[]:Heap}) (fun T hT=>(cQ T hT)))
theorem Kx(s:St)(h:vF s)(hu:∀n,dG s n=cU s n){lo hi:AV}(hl:Fl lo)(hh:Fl hi)(on:List Int)(sg:on.length≤40)(L:List jX):∀(post:List Int)(i:Nat)(hd:on.drop i=post)(out:List jX)(ho:out.length≤i*1000)(he:DG s lo hi out post=L)(T:Env)
 (hT:Has T [(2,.ptr 0 0),(3,.ptr 1 0),(5,rV out),(6,cB .str (kG out)),(7,.int .i64 i)]),
 bA cfg L8 Bc T ⟨[(aB s).cells,[lo,hi,.sl .sh (on.map bC)]],DI out.length,[]⟩ (aJ (rV L)):=by
 haveI:=hl.C
 haveI:=hh.C
 intro post
 induction post with
 |nil=>
  intro i hd out ho he T hT
  have hge:=bf hd
  have he':out=L:=he
  subst he'
  exact gG 90 _ hT (.len (lM .sh bC on)<|.no (dF ((↑i:Int)<(↑on.length:Int)))<|.fin ((.ret (.sl (Lx out) (out.map bM)),{boxes:=[[.sl .sh (s.nodes.map aA),.sl .sh (s.aj.map af),.sl .sh (s.aY.map aP)],[lo,hi,.sl .sh (on.map bC)]],toks:=DI out.length,loops:=[]:Heap})) rfl)
 |cons w post ih=>
  intro i hd out ho he T hT
  have hlt:=bg hd
  have cq:=aL hd
  have cn:cc 1 (.sl .sh (on.map bC)) (.int .i64 (i:Nat))=some (.ref [.int .i64 w]):=bx (f:=bC) hd rfl
  have o:=BM s h hu hl hh w
  have ol:=nT s lo hi w
  have hp:=h.ins.aj
  have il:=pX w (jo s lo hi w) out
  have Ob:=Ic .undef lo hi (aB s).cells on (by omega) i hlt w (drop_at hd) (jo s lo hi w) (by omega) out (by omega) (aJ (rV L)) (fun T hT=>ih (i+1) cq (vG w out (jo s lo hi w)) (by omega) he T hT)
   (jo s lo hi w) 0 rfl out (by omega) rfl
  generalize jo s lo hi w=nm at o Ob
  exact let ag:List AV:=[.sl .sh (s.nodes.map aA),.sl .sh (s.aj.map af),.sl .sh (s.aY.map aP)];gG 160 _ hT (.len (lM .sh bC on)<|.yes (dT ((↑i:Int)<(↑on.length:Int)))<|.idx cn<|.bE ([.agg ag,.int .i64 w,.agg [lo,hi]]) (.sl .sh (List.map .str nm)) o cA.p fe.p<|.aT xo [(2,.ptr 0 0),(3,.ptr 1 0),(5,.sl (Lx out) (out.map bM)),(6,.sl (dS (kG out)) (List.map .str (kG out))),(7,.int .i64 ↑i),(8,.sl .sh (List.map .str nm)),(9,.int .i64 0)] ({boxes:=[ag,[lo,hi,.sl .sh (on.map bC)]],toks:=DI out.length,loops:=[]:Heap}) (fun T hT=>(Ob T hT)))
theorem Ky(s:St)(h:vF s)(hu:∀n,dG s n=cU s n){lo hi:AV}(hl:Fl lo)(hh:Fl hi)(on:List Int)(sg:on.length≤40):aq cfg 33 [aB s,.agg [lo,hi,.sl .sh (on.map bC)]] (rV (DG s lo hi [] on)):=by
 haveI:=hl.C
 haveI:=hh.C
 refine aq.run (X1 _ _) ?_
 have lo':=Kx s h hu hl hh on sg (DG s lo hi [] on) on 0 rfl [] (by simp) rfl
 have e1:rV ([]:List jX)=.sl .full []:=rfl
 have e2:cB AV.str (kG ([]:List jX))=.sl .full []:=rfl
 have e3:DI ([]:List jX).length=[]:=rfl
 rw[e1,e2,e3]at lo'
 generalize DG s lo hi [] on=L at*
 exact gG 90 [] trivial (.aT Bc [(2,.ptr 0 0),(3,.ptr 1 0),(5,.sl .full []),(6,.sl .full []),(7,.int .i64 0)] ({boxes:=[[.sl .sh (s.nodes.map aA),.sl .sh (s.aj.map af),.sl .sh (s.aY.map aP)],[lo,hi,.sl .sh (on.map bC)]],toks:=[],loops:=[]:Heap}) (fun T hT=>(lo' T hT)))
theorem BN(s:St)(lo hi:AV):∀(l:List Int)(out:List jX),(DG s lo hi out l).length≤out.length+l.length*s.aj.length
 |[],out=>by simp[DG]
 |w::l,out=>by
  have h1:=BN s lo hi l (vG w out (jo s lo hi w))
  have h2:=pX w (jo s lo hi w) out
  have h3:=nT s lo hi w
  rw[DG,List.length_cons,Nat.add_mul];omega
theorem Kz(B:List (List AV))(L:List jX)(hL:L.length≤100000):∀(post:List jX)(i:Nat)(hd:L.drop i=post)(T:Env)
 (hT:Has T [(15,.sl .sh (L.map bM)),(16,.sl .sh (L.map bM)),(17,.int .i64 i)]),bA cfg a5 Nk T ⟨B,[],[]⟩ (aJ (.bool true)):=by
 intro post
 induction post with
 |nil=>
  intro i hd T hT
  have hge:=bf hd
  exact gG 90 _ hT (.len (lM .sh bM L)<|.no (dF ((↑i:Int)<(↑L.length:Int)))<|.fin ((.ret (.bool true),{boxes:=B,toks:=[],loops:=[]:Heap})) rfl)
 |cons x post ih=>
  intro i hd T hT
  have hlt:=bg hd
  have cq:=aL hd
  have cn:cc 2 (.sl .sh (L.map bM)) (.int .i64 (i:Nat))=some (.ref [.str x.1,.int .i64 x.2]):=bx (f:=bM) hd rfl
  have cQ:=ih (i+1) cq
  exact let ag:Heap:={boxes:=B,toks:=[],loops:=[]:Heap};gG 160 _ hT (.len (lM .sh bM L)<|.yes (dT ((↑i:Int)<(↑L.length:Int)))<|.idx cn<|.load (rfl:ak false 1 ag (.ref [.str x.fst])=some (.str x.fst))<|.idx cn<|.load (rfl:ak false 1 ag (.ref [.str x.fst])=some (.str x.fst))<|.no (show(!x.fst==x.fst)=false from by have hh:(x.fst==x.fst)=true:=(by simp+zetaDelta);simp[hh])<|.idx cn<|.load (rfl:ak false 1 ag (.ref [.int .i64 x.snd])=some (.int .i64 x.snd))<|.idx cn<|.load (rfl:ak false 1 ag (.ref [.int .i64 x.snd])=some (.int .i64 x.snd))<|.no (show(x.snd !=x.snd)=false from Bool.eq_false_iff.2 (by simp+zetaDelta))<|.bin (iI i)<|.aT Nk [(15,.sl .sh (L.map bM)),(16,.sl .sh (L.map bM)),(17,.int .i64 (↑(i+1)))] (ag) (fun T hT=>(cQ T hT)))
theorem VF{lo hi:AV}(hl:Fl lo)(hh:Fl hi)(l:List AV)(S:List AV):cv cfg (.store 3 (.c (.ptr 1 0)) (.c (.agg [lo,hi,.sl .sh l]))) ⟨[S,[.bQ 0,.bQ 0,.sl .full []]],[],[]⟩ .undef ⟨[S,[lo,hi,.sl .sh l]],[],[]⟩:=fun T=>by
 cases hl<;>cases hh<;>rfl
theorem R4{lo hi:AV}(hl:Fl lo)(hh:Fl hi)(l:List AV)(S C X:List AV):cv cfg (.store 3 (.c (.ptr 3 0)) (.c (.agg [lo,hi,.sl .sh l]))) ⟨[S,C,X,[.bQ 0,.bQ 0,.sl .full []]],[],[]⟩ .undef ⟨[S,C,X,[lo,hi,.sl .sh l]],[],[]⟩:=fun T=>by
 cases hl<;>cases hh<;>rfl
theorem R5(s:St)(S C Y:List AV):cv cfg (.store 3 (.c (.ptr 2 0)) (.c (aB s))) ⟨[S,C,[.sl .full [],.sl .full [],.sl .full []],Y],[],[]⟩ .undef ⟨[S,C,(aB s).cells,Y],[],[]⟩:=fun T=>rfl
theorem Ie(s:St)(r:Q7 s){lo hi:AV}(hl:Fl lo)(hh:Fl hi)(on:List Int)(why:Int):aq cfg 5 [aB s,lo,hi,.sl .sh (on.map bC),.int .i64 why] (.bool true):=by
 haveI:=hl.C
 haveI:=hh.C
 refine aq.run (l5 _ _) ?_
 have g:=Hj s r
 cases hg:(rK s&&vq s==0)with
 |false=>
  rw[hg]at g
  exact let ag:List AV:=[.sl .sh (s.nodes.map aA),.sl .sh (s.aj.map af),.sl .sh (s.aY.map aP)];gG 90 [] trivial (.aG ([]) (.bool true) nW<|.ff<|.aG ([.agg ag]) (.bool false) g<|.tt<|.tt<|.fin ((.ret (.bool true),{boxes:=[ag],toks:=[],loops:=[]:Heap})) rfl)
 |true=>
  rw[hg]at g
  by_cases sg:on.length≤20
  ·simp only[Bool.and_eq_true,beq_iff_eq]at hg
   obtain⟨SN,YR⟩:=hg
   have fs:=Q5 SN
   have fp:=fs.aj
   have hu:=J4 YR
   have b:=YQ fs r
   have o:=xV s fs
   have cf:=Kt hl hh on (by omega)
   have c1:=Kr hl hh on (by omega)
   have c2:=Ks hl hh on (by omega)
   have b1:=RH hl hh
   have b2:=R0 hl hh .sh (on.map bC)
   have Ou:=VF hl hh (on.map bC) (aB s).cells
   have WZ:=R4 hl hh (on.map bC) (aB s).cells [lo,hi,.sl .sh (on.map bC)] (aB s).cells
   have Li:=R5 s (aB s).cells [lo,hi,.sl .sh (on.map bC)] [.bQ 0,.bQ 0,.sl .full []]
   have o1:=BL s b hl hh why
   have o2:=BM s b hu hl hh why
   have ol:=nT s lo hi why
   have ns:=Az (jo s lo hi why) (by omega)
   have a1:=Oc s b hl hh on (by omega)
   have a2:=Ky s b hu hl hh on (by omega)
   have al:=BN s lo hi on []
   have hmul:on.length*s.aj.length≤20*130:=Nat.mul_le_mul sg fp
   rw[List.length_nil]at al
   generalize DG s lo hi [] on=L at*
   have lo':=fun B=>Kz B L (by omega) L 0 rfl
   generalize jo s lo hi why=nq at*
   generalize Oa on=e at*
   by_cases he:e=0
   ·subst he
    exact let ag:List AV:=[.sl .sh (s.nodes.map aA),.sl .sh (s.aj.map af),.sl .sh (s.aY.map aP)];let ax:List AV:=[.agg [lo,hi,.sl .sh (on.map bC)]];let bt:List AV:=[.sl .sh (List.map .str nq),.sl .sh (List.map .str nq)];let bR:List AV:=[.agg ag,.agg [lo,hi,.sl .sh (on.map bC)]];let dm:List AV:=[AV.bQ 0,AV.bQ 0,.sl .full []];let aS:Heap:={boxes:=[(aB s).cells,[lo,hi,.sl .sh (on.map bC)],(aB s).cells,dm],toks:=[],loops:=[]:Heap};let eH:Heap:={boxes:=[ag],toks:=[],loops:=[]:Heap};let gJ:List AV:=[.agg ag,.int .i64 why,.agg [lo,hi]];gG 400 [] trivial (.aG ([]) (.bool true) nW<|.ff<|.aG ([.agg ag]) (.bool true) g<|.ff<|.len (lM .sh bC on)<|.no (dF ((20:Int)<(↑on.length:Int)))<|.cw (show cv cfg (.build [AV.bQ 0,AV.bQ 0] [(0,1,.c lo),(1,1,.c hi)]) eH (.agg [lo,hi]) eH from b1 _)<|.cw Ou<|.aG ([.agg ag]) (.agg ag) o<|.bE (ax) (.agg [lo,hi,.sl .sh (on.map bC)]) cf cA.p fe.p<|.cw Li<|.cw WZ<|.bE (ax) (.int .i64 0) c2 cA.p ⟨rfl,rfl⟩<|.bE (ax) (.int .i64 0) c1 cA.p ⟨rfl,rfl⟩<|.ff<|.bE (gJ) (.sl .sh (List.map .str nq)) o1 cA.p fe.p<|.bE (gJ) (.sl .sh (List.map .str nq)) o2 cA.p fe.p<|.aG (bt) (.bool true) ns<|.ff<|.ff<|.bE (bR) (.sl .sh (L.map bM)) a1 cA.p fe.p<|.bE (bR) (.sl .sh (L.map bM)) a2 cA.p fe.p<|.len (lM .sh bM L)<|.len (lM .sh bM L)<|.no (show((↑L.length:Int) !=(↑L.length:Int))=false from Bool.eq_false_iff.2 (by simp+zetaDelta))<|.aT Nk [(15,.sl .sh (L.map bM)),(16,.sl .sh (L.map bM)),(17,.int .i64 0)] ({boxes:=[ag,[lo,hi,.sl .sh (on.map bC)],ag,[lo,hi,.sl .sh (on.map bC)]],toks:=[],loops:=[]:Heap}) (fun T hT=>(lo' ([ag,[lo,hi,.sl .sh (on.map bC)],ag,[lo,hi,.sl .sh (on.map bC)]]) T hT)))
   ·exact let ag:List AV:=[.sl .sh (s.nodes.map aA),.sl .sh (s.aj.map af),.sl .sh (s.aY.map aP)];let ax:List AV:=[.agg [lo,hi,.sl .sh (on.map bC)]];let bt:List AV:=[.sl .sh (List.map .str nq),.sl .sh (List.map .str nq)];let bR:List AV:=[AV.bQ 0,AV.bQ 0,.sl .full []];let aS:Heap:={boxes:=[(aB s).cells,[lo,hi,.sl .sh (on.map bC)],(aB s).cells,bR],toks:=[],loops:=[]:Heap};let dm:Heap:={boxes:=[ag],toks:=[],loops:=[]:Heap};let eH:List AV:=[.agg ag,.int .i64 why,.agg [lo,hi]];gG 400 [] trivial (.aG ([]) (.bool true) nW<|.ff<|.aG ([.agg ag]) (.bool true) g<|.ff<|.len (lM .sh bC on)<|.no (dF ((20:Int)<(↑on.length:Int)))<|.cw (show cv cfg (.build [AV.bQ 0,AV.bQ 0] [(0,1,.c lo),(1,1,.c hi)]) dm (.agg [lo,hi]) dm from b1 _)<|.cw Ou<|.aG ([.agg ag]) (.agg ag) o<|.bE (ax) (.agg [lo,hi,.sl .sh (on.map bC)]) cf cA.p fe.p<|.cw Li<|.cw WZ<|.bE (ax) (.int .i64 e) c2 cA.p ⟨rfl,rfl⟩<|.bE (ax) (.int .i64 e) c1 cA.p ⟨rfl,rfl⟩<|.no (show(e !=e)=false from Bool.eq_false_iff.2 (by simp+zetaDelta))<|.bE (eH) (.sl .sh (List.map .str nq)) o1 cA.p fe.p<|.bE (eH) (.sl .sh (List.map .str nq)) o2 cA.p fe.p<|.aG (bt) (.bool true) ns<|.ff<|.yes (show(e !=(0:Int))=true from(by simpa using he))<|.fin ((.ret (.bool true),{boxes:=[ag,[lo,hi,.sl .sh (on.map bC)],ag,[lo,hi,.sl .sh (on.map bC)]],toks:=[],loops:=[]:Heap})) rfl)
  ·exact let ag:List AV:=[.sl .sh (s.nodes.map aA),.sl .sh (s.aj.map af),.sl .sh (s.aY.map aP)];gG 120 [] trivial (.aG ([]) (.bool true) nW<|.ff<|.aG ([.agg ag]) (.bool true) g<|.ff<|.len (lM .sh bC on)<|.yes (dT ((20:Int)<(↑on.length:Int)))<|.fin ((.ret (.bool true),{boxes:=[ag],toks:=[],loops:=[]:Heap})) rfl)
end Go.Aa.T
namespace Go.Aa.T
open Go.Aa Go.Proofs
theorem Of{k:Nat}{y:AV}(h:mY Tryz.prog (k+2) 38 y):∃t:List Int,y=.sl .sh (t.map bC):=by
 obtain⟨l,rfl,-,hl⟩:=CG Tryz.underlying38 h
 obtain⟨t,rfl,-⟩:=gO (f:=bC) (S:=fun x:Int=>True) (fun y hy=>by
  obtain⟨m,rfl,-⟩:=A5 Tryz.underlying3 hy
  exact⟨m,rfl,trivial⟩) l hl
 exact⟨t,rfl⟩
theorem law5(xs:List AV)(h:xd Tryz.prog 6 [26,27,27,38,3] xs)(hz:tJ Tryz.prog [26,27,27,38,3] xs):∃H',lim cfg (.fn 5) xs Heap.nil=some (.ret (.bool true),H'):=by
 obtain⟨x1,x2,x3,x4,x5,rfl,h1,h2,h3,h4,h5⟩:=Jw h
 obtain⟨a,rfl,r,-⟩:=Vm (k:=0) h1
 obtain⟨on,rfl⟩:=Of h4
 obtain⟨w,rfl,-⟩:=A5 Tryz.underlying3 h5
 exact(Ie a r (RJ h2) (RJ h3) on w).ret
end Go.Aa.T
namespace Go.Proofs
open Go.Shelf
def Tryz.yu:Go.Shelf.Ren:=⟨fun|160=>279|232=>302|231=>301|227=>303|234=>305|233=>304|236=>307|235=>306|228=>321|271=>323|151=>322|197=>298|120=>328|152=>327|260=>316|137=>329|119=>330|224=>319|225=>318|217=>317|266=>325|n=>n,fun|9=>9|4=>4|3=>3|5=>5|117=>359|116=>358|0=>0|124=>362|21=>21|105=>353|46=>329|119=>376|139=>379|138=>378|n=>n,fun|3=>2|4=>3|n=>n⟩
theorem Tryz.KA:Go.Proofs.Lays.n160 Tryz.prog Tryz.yu:={
 mixed:=by kernel_rfl
 f119:=Tryz.func330.trans (congrArg some (by kernel_rfl))
 f120:=Tryz.func328.trans (congrArg some (by kernel_rfl))
 f137:=Tryz.func329.trans (congrArg some (by kernel_rfl))
 f151:=Tryz.func322.trans (congrArg some (by kernel_rfl))
 f152:=Tryz.func327.trans (congrArg some (by kernel_rfl))
 f160:=Tryz.func279.trans (congrArg some (by kernel_rfl))
 f197:=Tryz.func298.trans (congrArg some (by kernel_rfl))
 f217:=Tryz.func317.trans (congrArg some (by kernel_rfl))
 f224:=Tryz.func319.trans (congrArg some (by kernel_rfl))
 f225:=Tryz.func318.trans (congrArg some (by kernel_rfl))
 f227:=Tryz.func303.trans (congrArg some (by kernel_rfl))
 f228:=Tryz.func321.trans (congrArg some (by kernel_rfl))
 f231:=Tryz.func301.trans (congrArg some (by kernel_rfl))
 f232:=Tryz.func302.trans (congrArg some (by kernel_rfl))
 f233:=Tryz.func304.trans (congrArg some (by kernel_rfl))
 f234:=Tryz.func305.trans (congrArg some (by kernel_rfl))
 f235:=Tryz.func306.trans (congrArg some (by kernel_rfl))
 f236:=Tryz.func307.trans (congrArg some (by kernel_rfl))
 f260:=Tryz.func316.trans (congrArg some (by kernel_rfl))
 f266:=Tryz.func325.trans (congrArg some (by kernel_rfl))
 f271:=Tryz.func323.trans (congrArg some (by kernel_rfl))
 t0:=Tryz.underlying0
 a0:=Tryz.isAgg0
 z0:=Tryz.sizeOf0
 v0:=Tryz.zeroValue0
 t3:=Tryz.underlying3
 a3:=Tryz.isAgg3
 z3:=Tryz.sizeOf3
 v3:=Tryz.zeroValue3
 t4:=Tryz.underlying4
 a4:=Tryz.isAgg4
 z4:=Tryz.sizeOf4
 v4:=Tryz.zeroValue4
 t5:=Tryz.underlying5
 a5:=Tryz.isAgg5
 z5:=Tryz.sizeOf5
 v5:=Tryz.zeroValue5
 t9:=Tryz.underlying9
 a9:=Tryz.isAgg9
 z9:=Tryz.sizeOf9
 v9:=Tryz.zeroValue9
 t21:=Tryz.underlying21
 a21:=Tryz.isAgg21
 z21:=Tryz.sizeOf21
 v21:=Tryz.zeroValue21
 t46:=Tryz.underlying329
 a46:=Tryz.isAgg329
 z46:=Tryz.sizeOf329
 v46:=Tryz.zeroValue329
 t105:=Tryz.underlying353
 a105:=Tryz.isAgg353
 z105:=Tryz.sizeOf353
 v105:=Tryz.zeroValue353
 t116:=Tryz.underlying358
 a116:=Tryz.isAgg358
 z116:=Tryz.sizeOf358
 t117:=Tryz.underlying359
 a117:=Tryz.isAgg359
 z117:=Tryz.sizeOf359
 v117:=Tryz.zeroValue359
 t119:=Tryz.underlying376
 a119:=Tryz.isAgg376
 z119:=Tryz.sizeOf376
 t124:=Tryz.underlying362
 a124:=Tryz.isAgg362
 z124:=Tryz.sizeOf362
 v124:=Tryz.zeroValue362
 t138:=Tryz.underlying378
 a138:=Tryz.isAgg378
 z138:=Tryz.sizeOf378
 v138:=Tryz.zeroValue378
 t139:=Tryz.underlying379
 a139:=Tryz.isAgg379
 z139:=Tryz.sizeOf379
 v139:=Tryz.zeroValue379
 g3:=by kernel_rfl
 g4:=by kernel_rfl}
def Tryz.yw:Go.Shelf.Ren:=⟨fun|143=>278|219=>300|217=>317|225=>318|224=>319|267=>320|266=>325|314=>326|n=>n,fun|9=>9|3=>3|4=>4|5=>5|46=>329|146=>380|51=>350|n=>n,fun|1=>1|n=>n⟩
theorem Tryz.KB:Go.Proofs.Lays.n143 Tryz.prog Tryz.yw:={
 mixed:=by kernel_rfl
 f143:=Tryz.func278.trans (congrArg some (by kernel_rfl))
 f217:=Tryz.func317.trans (congrArg some (by kernel_rfl))
 f219:=Tryz.func300.trans (congrArg some (by kernel_rfl))
 f224:=Tryz.func319.trans (congrArg some (by kernel_rfl))
 f225:=Tryz.func318.trans (congrArg some (by kernel_rfl))
 f266:=Tryz.func325.trans (congrArg some (by kernel_rfl))
 f267:=Tryz.func320.trans (congrArg some (by kernel_rfl))
 f314:=Tryz.func326.trans (congrArg some (by kernel_rfl))
 t3:=Tryz.underlying3
 a3:=Tryz.isAgg3
 z3:=Tryz.sizeOf3
 v3:=Tryz.zeroValue3
 t4:=Tryz.underlying4
 a4:=Tryz.isAgg4
 z4:=Tryz.sizeOf4
 v4:=Tryz.zeroValue4
 t5:=Tryz.underlying5
 a5:=Tryz.isAgg5
 z5:=Tryz.sizeOf5
 v5:=Tryz.zeroValue5
 t9:=Tryz.underlying9
 a9:=Tryz.isAgg9
 z9:=Tryz.sizeOf9
 v9:=Tryz.zeroValue9
 t46:=Tryz.underlying329
 a46:=Tryz.isAgg329
 z46:=Tryz.sizeOf329
 v46:=Tryz.zeroValue329
 t51:=Tryz.underlying350
 a51:=Tryz.isAgg350
 z51:=Tryz.sizeOf350
 v51:=Tryz.zeroValue350
 t146:=Tryz.underlying380
 a146:=Tryz.isAgg380
 z146:=Tryz.sizeOf380
 v146:=Tryz.zeroValue380
 g1:=by kernel_rfl}
def Tryz.yx:Go.Shelf.Ren:=⟨fun|138=>277|195=>297|218=>299|143=>278|219=>300|217=>317|225=>318|224=>319|267=>320|266=>325|314=>326|n=>n,fun|9=>9|3=>3|4=>4|5=>5|0=>0|46=>329|146=>380|51=>350|n=>n,fun|1=>1|n=>n⟩
theorem Tryz.KC:Go.Proofs.Lays.n138 Tryz.prog Tryz.yx:={
 mixed:=by kernel_rfl
 f138:=Tryz.func277.trans (congrArg some (by kernel_rfl))
 f143:=Tryz.func278.trans (congrArg some (by kernel_rfl))
 f195:=Tryz.func297.trans (congrArg some (by kernel_rfl))
 f217:=Tryz.func317.trans (congrArg some (by kernel_rfl))
 f218:=Tryz.func299.trans (congrArg some (by kernel_rfl))
 f219:=Tryz.func300.trans (congrArg some (by kernel_rfl))
 f224:=Tryz.func319.trans (congrArg some (by kernel_rfl))
 f225:=Tryz.func318.trans (congrArg some (by kernel_rfl))
 f266:=Tryz.func325.trans (congrArg some (by kernel_rfl))
 f267:=Tryz.func320.trans (congrArg some (by kernel_rfl))
 f314:=Tryz.func326.trans (congrArg some (by kernel_rfl))
 t0:=Tryz.underlying0
 a0:=Tryz.isAgg0
 z0:=Tryz.sizeOf0
 v0:=Tryz.zeroValue0
 t3:=Tryz.underlying3
 a3:=Tryz.isAgg3
 z3:=Tryz.sizeOf3
 v3:=Tryz.zeroValue3
 t4:=Tryz.underlying4
 a4:=Tryz.isAgg4
 z4:=Tryz.sizeOf4
 v4:=Tryz.zeroValue4
 t5:=Tryz.underlying5
 a5:=Tryz.isAgg5
 z5:=Tryz.sizeOf5
 v5:=Tryz.zeroValue5
 t9:=Tryz.underlying9
 a9:=Tryz.isAgg9
 z9:=Tryz.sizeOf9
 v9:=Tryz.zeroValue9
 t46:=Tryz.underlying329
 a46:=Tryz.isAgg329
 z46:=Tryz.sizeOf329
 v46:=Tryz.zeroValue329
 t51:=Tryz.underlying350
 a51:=Tryz.isAgg350
 z51:=Tryz.sizeOf350
 v51:=Tryz.zeroValue350
 t146:=Tryz.underlying380
 a146:=Tryz.isAgg380
 z146:=Tryz.sizeOf380
 v146:=Tryz.zeroValue380
 g1:=by kernel_rfl}
def Tryz.yy:Go.Shelf.Ren:=⟨fun|190=>227|125=>271|258=>270|128=>295|129=>296|302=>286|303=>287|304=>288|305=>289|306=>290|307=>291|308=>292|309=>293|310=>294|333=>310|329=>311|330=>312|334=>313|335=>314|336=>315|344=>324|n=>n,fun|31=>66|9=>9|3=>3|46=>329|0=>0|51=>350|53=>268|4=>4|183=>343|182=>342|131=>157|5=>5|218=>364|222=>368|228=>373|229=>374|n=>n,fun|n=>n⟩
theorem Tryz.BO:Go.Proofs.Lays.n190 Tryz.prog Tryz.yy:={
 mixed:=by kernel_rfl
 f125:=Tryz.func271.trans (congrArg some (by kernel_rfl))
 f128:=Tryz.func295.trans (congrArg some (by kernel_rfl))
 f129:=Tryz.func296.trans (congrArg some (by kernel_rfl))
 f190:=Tryz.func227.trans (congrArg some (by kernel_rfl))
 f258:=Tryz.func270.trans (congrArg some (by kernel_rfl))
 f302:=Tryz.func286.trans (congrArg some (by kernel_rfl))
 f303:=Tryz.func287.trans (congrArg some (by kernel_rfl))
 f304:=Tryz.func288.trans (congrArg some (by kernel_rfl))
 f305:=Tryz.func289.trans (congrArg some (by kernel_rfl))
 f306:=Tryz.func290.trans (congrArg some (by kernel_rfl))
 f307:=Tryz.func291.trans (congrArg some (by kernel_rfl))
 f308:=Tryz.func292.trans (congrArg some (by kernel_rfl))
 f309:=Tryz.func293.trans (congrArg some (by kernel_rfl))
 f310:=Tryz.func294.trans (congrArg some (by kernel_rfl))
 f329:=Tryz.func311.trans (congrArg some (by kernel_rfl))
 f330:=Tryz.func312.trans (congrArg some (by kernel_rfl))
 f333:=Tryz.func310.trans (congrArg some (by kernel_rfl))
 f334:=Tryz.func313.trans (congrArg some (by kernel_rfl))
 f335:=Tryz.func314.trans (congrArg some (by kernel_rfl))
 f336:=Tryz.func315.trans (congrArg some (by kernel_rfl))
 f344:=Tryz.func324.trans (congrArg some (by kernel_rfl))
 t0:=Tryz.underlying0
 a0:=Tryz.isAgg0
 z0:=Tryz.sizeOf0
 v0:=Tryz.zeroValue0
 t3:=Tryz.underlying3
 a3:=Tryz.isAgg3
 z3:=Tryz.sizeOf3
 v3:=Tryz.zeroValue3
 t4:=Tryz.underlying4
 a4:=Tryz.isAgg4
 z4:=Tryz.sizeOf4
 v4:=Tryz.zeroValue4
 t5:=Tryz.underlying5
 a5:=Tryz.isAgg5
 z5:=Tryz.sizeOf5
 v5:=Tryz.zeroValue5
 t9:=Tryz.underlying9
 a9:=Tryz.isAgg9
 z9:=Tryz.sizeOf9
 v9:=Tryz.zeroValue9
 t31:=Tryz.underlying66
 a31:=Tryz.isAgg66
 z31:=Tryz.sizeOf66
 v31:=Tryz.zeroValue66
 t46:=Tryz.underlying329
 a46:=Tryz.isAgg329
 z46:=Tryz.sizeOf329
 v46:=Tryz.zeroValue329
 t51:=Tryz.underlying350
 a51:=Tryz.isAgg350
 z51:=Tryz.sizeOf350
 v51:=Tryz.zeroValue350
 t53:=Tryz.underlying268
 a53:=Tryz.isAgg268
 z53:=Tryz.sizeOf268
 v53:=Tryz.zeroValue268
 t131:=Tryz.underlying157
 a131:=Tryz.isAgg157
 z131:=Tryz.sizeOf157
 v131:=Tryz.zeroValue157
 t182:=Tryz.underlying342
 a182:=Tryz.isAgg342
 z182:=Tryz.sizeOf342
 v182:=Tryz.zeroValue342
 t183:=Tryz.underlying343
 a183:=Tryz.isAgg343
 z183:=Tryz.sizeOf343
 v183:=Tryz.zeroValue343
 t218:=Tryz.underlying364
 a218:=Tryz.isAgg364
 z218:=Tryz.sizeOf364
 v218:=Tryz.zeroValue364
 t222:=Tryz.underlying368
 a222:=Tryz.isAgg368
 z222:=Tryz.sizeOf368
 v222:=Tryz.zeroValue368
 t228:=Tryz.underlying373
 a228:=Tryz.isAgg373
 z228:=Tryz.sizeOf373
 v228:=Tryz.zeroValue373
 t229:=Tryz.underlying374
 a229:=Tryz.isAgg374
 z229:=Tryz.sizeOf374
 v229:=Tryz.zeroValue374}
end Go.Proofs
namespace Go.Aa
open Go.Proofs Go.RowKit
variable{P:Program}{G:aF}{w w':World}{H:Heap}
theorem fT.app{u1 u2:List Value}{c1 c2:List AV}(h1:fT G w u1 c1)(h2:fT G w u2 c2):fT G w (u1++u2) (c1++c2):=by
 refine⟨by simp[h1.1,h2.1],fun i i1 i2=> ?_⟩
 by_cases h:i<u1.length
 ·rw[List.getElem_append_left h,List.getElem_append_left (by rw[←h1.1];exact h)]
  exact h1.2 i h _
 ·rw[List.getElem_append_right (by omega),List.getElem_append_right (by rw[←h1.1];omega)]
  have:=h2.2 (i-u1.length) (by simp only[List.length_append]at i1;omega) (by have:=h1.1;simp only[List.length_append]at i2;omega)
  simp only[h1.1]at this⊢
  exact this
theorem fT.tk{us:List Value}{cs:List AV}(o:Nat)(h:fT G w us cs):fT G w (us.take o) (cs.take o):=
 ⟨by simp[h.1],fun i i1 i2=>by simp only[List.getElem_take];exact h.2 i _ _⟩
end Go.Aa
namespace Go.Aa.T
open Go.Aa Go.Proofs Go.RowKit
set_option maxHeartbeats 4000000 in
set_option maxRecDepth 100000 in
theorem DJ(n c:Nat)(w:World):Calls Tryz.prog 152 #[.slice none n c] w fun e w'=>e=.returned (.slice none 0 0)∧w'=w:=by
 have YS:∀(w:World)(a:Option Addr)(n c n' c':Nat),(binOp .eql 23 (.slice a n c) (.slice none n' c')).run Tryz.prog w=.ok (.bool a.isNone) w:=fun w a n c n' c'=>Lib.run_eql_slice_nil w _ _ a n c n' c' Tryz.underlying23
 go_enter Tryz.func152,Tryz.ntmps152
 go_wp2
 go_ret
 exact⟨rfl,rfl⟩
set_option maxHeartbeats 4000000 in
set_option maxRecDepth 100000 in
theorem AF(a:Addr)(n c:Nat)(w:World)(r:Value)(w2:World)(hr:(Builtin.append_ #[23,23] 23 #[.slice (some ⟨w.heap.size,0,none⟩) 0 0,.slice (some a) n c]).run Tryz.prog (w.alloc (.cells #[] 81))=.ok r w2):
 Calls Tryz.prog 152 #[.slice (some a) n c] w fun e w'=>e=.returned r∧w'=w2:=by
 have YS:∀(w:World)(a:Option Addr)(n c n' c':Nat),(binOp .eql 23 (.slice a n c) (.slice none n' c')).run Tryz.prog w=.ok (.bool a.isNone) w:=fun w a n c n' c'=>Lib.run_eql_slice_nil w _ _ a n c n' c' Tryz.underlying23
 obtain⟨ab,ao,Y7⟩:=a
 go_enter Tryz.func152,Tryz.ntmps152
 go_wp2_with(at_builtin;refine Lib.wpList_append_run _ rfl _ _ _ _ rfl _ _ rfl rfl _ _ hr ?_)
 go_ret
 exact⟨rfl,rfl⟩
theorem KD:∃i z,Tryz.prog.info? 81=some i∧i.zero=some z∧z.cells.size=11∧i.size=11∧i.bytes=184:=by
 have h:((Tryz.prog.info? 81).any fun i=>i.zero.any (fun z=>z.cells.size==11)&&(i.size==11&&i.bytes==184))=true:=by kernel_rfl
 obtain⟨i,hi,h⟩:=(Option.any_eq_true _ _).1 h
 simp only[Bool.and_eq_true,beq_iff_eq]at h
 obtain⟨h,h2,h3⟩:=h
 obtain⟨z,hz,h⟩:=(Option.any_eq_true _ _).1 h
 exact⟨i,z,hi,hz,by simpa using h,h2,h3⟩
theorem DK:o4 Tryz.prog 152 (zz 11 184):=by
 intro az H v H' hg G w vs hH hargs
 unfold zz at hg
 split at hg
 ·rename_i k l
  obtain⟨i,z,hi,hz,hzs,VG,hib⟩:=KD
  rw[←VG,←hib]at hg
  obtain⟨u,rfl,hr⟩:=zy hargs
  have hu:∃b n c,u=.slice b n c:=by
   cases hr with
   |gZ a c=>exact⟨_,_,_,rfl⟩
   |sl a c=>exact⟨_,_,_,rfl⟩
  obtain⟨b,n,c,rfl⟩:=hu
  cases b with
  |none=>
   refine .inl ⟨w,by kernel_rfl,(DJ n c w).mono fun e1 w' hh=> ?_,rfl⟩
   obtain⟨rfl,rfl⟩:=hh
   cases hr with
   |gZ a c=>
    simp only[ef,Option.some.injEq,Prod.mk.injEq]at hg
    obtain⟨rfl,rfl⟩:=hg
    exact⟨G,.refl _ _,hH,_,rfl,.gZ none 0 .nil (fun _=>rfl) (fun t e=>by cases e)⟩
  |some a=>
   have SN:=Grow.alloc (w:=w) hH.base (.cells #[] 81) 0
   have hst:=SN.step hH.base
   have hx:bG (G.set w.heap.size 0) (w.alloc (.cells #[] 81)) (.slice (some ⟨w.heap.size,0,none⟩) 0 0) (.sl .full []):=.gZ _ _ _ (fun _=>rfl) (fun t e=>by cases e)
   obtain⟨r,w2,G2,j1,j2,j3,j4⟩:=ni (ty:=23) (hH.grow SN) hx (hr.step hst) hg Tryz.underlying23 Tryz.underlying23 hi hz (by rw[hzs,VG]) (by rw[VG];decide) (by rw[hib];decide)
   refine .inl ⟨w,by kernel_rfl,(AF a n c w r w2 j1).mono fun e1 w' hh=> ?_,rfl⟩
   obtain⟨rfl,rfl⟩:=hh
   exact⟨G2,hst.trans j2,j3,_,rfl,j4⟩
 ·cases hg
end Go.Aa.T
namespace Go.Aa.T
open Go.Aa Go.Proofs Go.RowKit Go.Shelf
theorem cfgOk:AY Tryz.prog cfg:=by
 refine⟨by kernel_rfl,fun f A h=>MU h,fun f g h=> ?_,fun f h=> ?_⟩
 ·have h:Nj f=some g:=h
  unfold Nj at h
  split at h<;>simp only[Option.some.injEq,reduceCtorEq]at h<;>subst h
  ·exact FV (fun _ _=>by kernel_rfl) fun s c w h1 h2 h3=>Any.strings_Trim_laid Tryz.KA (by kernel_rfl) s c w h1 h2 h3
  ·exact FY (fun _ _=>by kernel_rfl) (fun a c w=>Any.slices_Sort_string_none Tryz.BO a c w) fun blk off cap ss w h1 h2 h3=>Any.slices_Sort_string Tryz.BO blk off cap ss w h1 h2 h3
  ·exact CH (fun _ _=>by kernel_rfl) fun s c w=>Any.strings_Index_one Tryz.KB s c w
  ·exact CI (fun _ _=>by kernel_rfl) fun s c w=>Any.strings_Count_one Tryz.KC s c w
  ·exact DK
  ·exact F1 fun b w=>by
    rw[run_callFunc_extern (fn:=Tryz.f201) Tryz.func201 (by kernel_rfl) (by kernel_rfl) (by kernel_rfl) (e:=Extern.MathFloatBits.float64bits) (by kernel_rfl)]
    rfl
  ·exact uL fun n w=>by
    rw[run_callFunc_extern (fn:=Tryz.f258) Tryz.func258 (by kernel_rfl) (by kernel_rfl) (by kernel_rfl) (e:=Extern.MathFloatBits.float64frombits) (by kernel_rfl)]
    rfl
 ·have h:(f==66)=true:=h
  have:f=66:=by simpa using h
  subst this
  exact Go.Proofs.YthlhlfiklmmenaaGreatDoor.T.Lj
#print axioms cfgOk
end Go.Aa.T
namespace Go.Aa
variable{P:Program}{R:List (Nat×Nat)}
def pM(R:List (Nat×Nat))(u:Nat):Option Nat:=(R.find? fun p=>p.1==u).map (·.2)
def Ov(P:Program)(R:List (Nat×Nat)):Bool:=R.all fun p=>(P.partsOf p.1).all fun v=>match pM R v with
 |some r=>Nat.blt r p.2
 |none=>false
theorem BP(h:Ov P R=true){u ru v:Nat}(hu:pM R u=some ru)(hv:v∈P.partsOf u):∃r,pM R v=some r∧r<ru:=by
 unfold pM at hu
 obtain⟨p,hp,rfl⟩:=Option.map_eq_some_iff.1 hu
 have hm:=List.mem_of_find?_eq_some hp
 have he:=List.find?_some hp
 simp only[beq_iff_eq]at he
 have h1:=List.all_eq_true.1 h p hm
 rw[he]at h1
 have h2:=List.all_eq_true.1 h1 v hv
 split at h2
 ·rename_i r hr
  exact⟨r,hr,by simpa using h2⟩
 ·cases h2
theorem KE(h:Ov P R=true){s:List TypeId}{r:Nat}(hs:∀x∈s,∃q,pM R x=some q∧q≤r):∀x∈P.grow s,∃q,pM R x=some q∧q≤r:=by
 intro x hx
 unfold Program.grow at hx
 rw[List.mem_eraseDups,List.mem_append]at hx
 rcases hx with hx|hx
 ·exact hs x hx
 ·obtain⟨u,hu,hx⟩:=List.mem_flatMap.1 hx
  obtain⟨q,hq,hl⟩:=hs u hu
  obtain⟨q',yS,hl'⟩:=BP h hq hx
  exact⟨q',yS,by omega⟩
theorem yz(h:Ov P R=true){r:Nat}:∀(n:Nat){s:List TypeId},(∀x∈s,∃q,pM R x=some q∧q≤r)→∀x∈P.grown n s,∃q,pM R x=some q∧q≤r
 |0,_,hs=>hs
 |n+1,_,hs=>yz h n (KE h hs)
theorem BQ(h:Ov P R=true){t r:Nat}(ht:pM R t=some r):∀x∈P.book t,∃q,pM R x=some q∧q≤r:=
 yz h _ fun x hx=>by
  rw[List.mem_singleton]at hx
  subst hx
  exact⟨r,ht,Nat.le_refl _⟩
theorem Ig(h:Ov P R=true){t r:Nat}(ht:pM R t=some r):P.loopsFrom t=false:=by
 unfold Program.loopsFrom
 rw[List.any_eq_false]
 intro u hu
 obtain⟨ru,W0,-⟩:=BQ h ht u hu
 simp only[Bool.not_eq_true]
 rw[List.any_eq_false]
 intro v hv
 obtain⟨rv,YT,hlt⟩:=BP h W0 hv
 intro hc
 have hm:u∈P.book v:=by simpa using hc
 obtain⟨q,hq,hl⟩:=BQ h YT u hm
 rw[W0]at hq
 simp only[Option.some.injEq]at hq
 omega
theorem rk_all(h:Ov P R=true){ts:List TypeId}(ht:(ts.all fun t=>(pM R t).isSome)=true):ts.any (P.loopsFrom ·)=false:=by
 rw[List.any_eq_false]
 intro t hm
 have:=List.all_eq_true.1 ht t hm
 obtain⟨r,hr⟩:=Option.isSome_iff_exists.1 this
 rw[Ig h hr]
 exact Bool.false_ne_true
end Go.Aa

