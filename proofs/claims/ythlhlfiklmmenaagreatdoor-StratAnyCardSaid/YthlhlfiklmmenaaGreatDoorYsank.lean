import Derived.Test.YthlhlfiklmmenaaGreatDoorYsanj
set_option linter.unusedVariables false
set_option linter.unusedSimpArgs false
set_option maxRecDepth 100000
namespace Go.Aa.T
open Go.Aa Go.Proofs
def rK(s:St):Bool:=decide (s.nodes.length≤34)&&(decide (s.aj.length≤130)&&(mq s.aY&&(s.nodes.all mT&&s.aj.all fD)))
structure Dh(s:St):Prop where
 nodes:s.nodes.length≤34
 aj:s.aj.length≤130
 aY:mq s.aY=true
 node:∀n∈s.nodes,mT n=true
 SJ:∀p∈s.aj,fD p=true
theorem Q5{s:St}(h:rK s=true):Dh s:=by
 simp only[rK,Bool.and_eq_true,decide_eq_true_eq,List.all_eq_true]at h
 exact⟨h.1,h.2.1,h.2.2.1,h.2.2.2.1,h.2.2.2.2⟩
theorem Ap(s:St)(hs:s.aj.length≤130):∀(post:List cT)(i:Nat)(hd:s.aj.drop i=post)(T:Env)(hT:Has T [(1,.ptr 0 0),(4,.int .i64 i)]),
 bA cfg a51 F7 T ⟨[(aB s).cells],[],[]⟩ (aJ (.bool (post.all fD))):=by
 intro post
 induction post with
 |nil=>
  intro i hd T hT
  have hge:=bf hd
  exact gG 60 _ hT (.len (lM .sh af s.aj)<|.no (dF ((↑i:Int)<(↑s.aj.length:Int)))<|.fin ((.ret (.bool true),{boxes:=[[.sl .sh (s.nodes.map aA),.sl .sh (s.aj.map af),.sl .sh (s.aY.map aP)]],toks:=[],loops:=[]:Heap})) rfl)
 |cons x post ih=>
  intro i hd T hT
  have hlt:=bg hd
  have cq:=aL hd
  have hx:=CY x
  have cn:cc 11 (.sl .sh (s.aj.map af)) (.int .i64 (i:Nat))=some (.ref (af x).cells):=bx (f:=af) hd rfl
  rw[List.all_cons]
  cases hb:fD x with
  |true=>
   rw[hb]at hx
   exact gG 60 _ hT (.len (lM .sh af s.aj)<|.yes (dT ((↑i:Int)<(↑s.aj.length:Int)))<|.idx cn<|.aG ([.agg [.str x.name,.str x.owner,.int .i64 x.prio,.sl .sh (x.need.map ai),.sl .sh (x.labels.map aI),.sl .sh (x.bS.map aX),.sl .sh (x.bh.map aQ),.str x.key,.int .i64 x.most,.str x.node,.bool x.hold]]) (.bool true) hx<|.ff<|.bin (iI i)<|.aT F7 [(1,.ptr 0 0),(4,.int .i64 (↑(i+1)))] ({boxes:=[[.sl .sh (s.nodes.map aA),.sl .sh (s.aj.map af),.sl .sh (s.aY.map aP)]],toks:=[],loops:=[]:Heap}) (fun T hT=>(ih (i+1) cq T hT)))
  |false=>
   rw[hb]at hx
   exact gG 60 _ hT (.len (lM .sh af s.aj)<|.yes (dT ((↑i:Int)<(↑s.aj.length:Int)))<|.idx cn<|.aG ([.agg [.str x.name,.str x.owner,.int .i64 x.prio,.sl .sh (x.need.map ai),.sl .sh (x.labels.map aI),.sl .sh (x.bS.map aX),.sl .sh (x.bh.map aQ),.str x.key,.int .i64 x.most,.str x.node,.bool x.hold]]) (.bool false) hx<|.tt<|.fin ((.ret (.bool false),{boxes:=[[.sl .sh (s.nodes.map aA),.sl .sh (s.aj.map af),.sl .sh (s.aY.map aP)]],toks:=[],loops:=[]:Heap})) rfl)
theorem xU(s:St)(hs:s.nodes.length≤34)(hp:s.aj.length≤130):∀(post:List Node)(i:Nat)(hd:s.nodes.drop i=post)(T:Env)(hT:Has T [(1,.ptr 0 0),(3,.int .i64 i)]),
 bA cfg a51 F6 T ⟨[(aB s).cells],[],[]⟩ (aJ (.bool (post.all mT&&s.aj.all fD))):=by
 intro post
 induction post with
 |nil=>
  intro i hd T hT
  have hge:=bf hd
  have h2:=Ap s hp s.aj 0 rfl
  rw[show(([]:List Node).all mT&&s.aj.all fD)=s.aj.all fD from rfl]
  exact gG 60 _ hT (.len (lM .sh aA s.nodes)<|.no (dF ((↑i:Int)<(↑s.nodes.length:Int)))<|.aT F7 [(1,.ptr 0 0),(4,.int .i64 0)] ({boxes:=[[.sl .sh (s.nodes.map aA),.sl .sh (s.aj.map af),.sl .sh (s.aY.map aP)]],toks:=[],loops:=[]:Heap}) (fun T hT=>(h2 T hT)))
 |cons x post ih=>
  intro i hd T hT
  have hlt:=bg hd
  have cq:=aL hd
  have hx:=GA x
  have cn:cc 5 (.sl .sh (s.nodes.map aA)) (.int .i64 (i:Nat))=some (.ref (aA x).cells):=bx (f:=aA) hd rfl
  rw[List.all_cons]
  cases hb:mT x with
  |true=>
   rw[hb]at hx
   rw[Bool.true_and]
   exact gG 60 _ hT (.len (lM .sh aA s.nodes)<|.yes (dT ((↑i:Int)<(↑s.nodes.length:Int)))<|.idx cn<|.aG ([.agg [.str x.name,.sl .sh (x.cap.map ai),.sl .sh (x.labels.map aI),.sl .sh (x.aV.map bu),.bool x.br]]) (.bool true) hx<|.ff<|.bin (iI i)<|.aT F6 [(1,.ptr 0 0),(3,.int .i64 (↑(i+1)))] ({boxes:=[[.sl .sh (s.nodes.map aA),.sl .sh (s.aj.map af),.sl .sh (s.aY.map aP)]],toks:=[],loops:=[]:Heap}) (fun T hT=>(ih (i+1) cq T hT)))
  |false=>
   rw[hb]at hx
   exact gG 60 _ hT (.len (lM .sh aA s.nodes)<|.yes (dT ((↑i:Int)<(↑s.nodes.length:Int)))<|.idx cn<|.aG ([.agg [.str x.name,.sl .sh (x.cap.map ai),.sl .sh (x.labels.map aI),.sl .sh (x.aV.map bu),.bool x.br]]) (.bool false) hx<|.tt<|.fin ((.ret (.bool false),{boxes:=[[.sl .sh (s.nodes.map aA),.sl .sh (s.aj.map af),.sl .sh (s.aY.map aP)]],toks:=[],loops:=[]:Heap})) rfl)
theorem Di(s:St):aq cfg 51 [aB s] (.bool (rK s)):=by
 refine aq.run (X5 _ _) ?_
 have hb:=C6 s.aY
 unfold rK
 by_cases h1:s.nodes.length≤34
 ·by_cases h2:s.aj.length≤130
  ·have h3:=xU s h1 h2 s.nodes 0 rfl
   rw[decide_eq_true h1,decide_eq_true h2,Bool.true_and,Bool.true_and]
   cases hq:mq s.aY with
   |true=>
    rw[hq]at hb
    rw[Bool.true_and]
    exact gG 90 [] trivial (.len (lM .sh aA s.nodes)<|.no (dF ((34:Int)<(↑s.nodes.length:Int)))<|.len (lM .sh af s.aj)<|.no (dF ((130:Int)<(↑s.aj.length:Int)))<|.aG ([.sl .sh (s.aY.map aP)]) (.bool true) hb<|.ff<|.aT F6 [(1,.ptr 0 0),(3,.int .i64 0)] ({boxes:=[[.sl .sh (s.nodes.map aA),.sl .sh (s.aj.map af),.sl .sh (s.aY.map aP)]],toks:=[],loops:=[]:Heap}) (fun T hT=>(h3 T hT)))
   |false=>
    rw[hq]at hb
    exact gG 90 [] trivial (.len (lM .sh aA s.nodes)<|.no (dF ((34:Int)<(↑s.nodes.length:Int)))<|.len (lM .sh af s.aj)<|.no (dF ((130:Int)<(↑s.aj.length:Int)))<|.aG ([.sl .sh (s.aY.map aP)]) (.bool false) hb<|.tt<|.fin ((.ret (.bool false),{boxes:=[[.sl .sh (s.nodes.map aA),.sl .sh (s.aj.map af),.sl .sh (s.aY.map aP)]],toks:=[],loops:=[]:Heap})) rfl)
  ·rw[decide_eq_false h2,Bool.false_and,Bool.and_false]
   exact gG 90 [] trivial (.len (lM .sh aA s.nodes)<|.no (dF ((34:Int)<(↑s.nodes.length:Int)))<|.len (lM .sh af s.aj)<|.yes (dT ((130:Int)<(↑s.aj.length:Int)))<|.tt<|.fin ((.ret (.bool false),{boxes:=[[.sl .sh (s.nodes.map aA),.sl .sh (s.aj.map af),.sl .sh (s.aY.map aP)]],toks:=[],loops:=[]:Heap})) rfl)
 ·rw[decide_eq_false h1,Bool.false_and]
  exact gG 90 [] trivial (.len (lM .sh aA s.nodes)<|.yes (dT ((34:Int)<(↑s.nodes.length:Int)))<|.tt<|.tt<|.fin ((.ret (.bool false),{boxes:=[[.sl .sh (s.nodes.map aA),.sl .sh (s.aj.map af),.sl .sh (s.aY.map aP)]],toks:=[],loops:=[]:Heap})) rfl)
theorem xV(s:St)(h:Dh s):aq cfg 16 [aB s] (aB s):=by
 refine aq.run (XP _ _) ?_
 have h1:=GB s.nodes (by have:=h.nodes;omega) h.node
 have h2:=CZ s.aj (by have:=h.aj;omega) h.SJ
 have h3:=GQ s.aY (C3 h.aY) (C4 h.aY)
 exact let ag:List AV:=[.sl .sh (s.nodes.map aA),.sl .sh (s.aj.map af),.sl .sh (s.aY.map aP)];gG 90 [] trivial (.bE ([.sl .sh (s.nodes.map aA)]) (.sl .sh (s.nodes.map aA)) h1 ⟨rfl,rfl⟩ fe.p<|.bE ([.sl .sh (s.aj.map af)]) (.sl .sh (s.aj.map af)) h2 ⟨rfl,rfl⟩ fe.p<|.bE ([.sl .sh (s.aY.map aP)]) (.sl .sh (s.aY.map aP)) h3 ⟨rfl,rfl⟩ fe.p<|.fin ((.ret (.agg ag),{boxes:=[ag,ag],toks:=[],loops:=[]:Heap})) rfl)
def kN(s:St):List cT→Int
 |[]=>0
 |p::r=>if p.node≠[]∧cL Node.name s.nodes p.node=none then 3 else kN s r
def Bw(s:St):List Node→Int
 |[]=>0
 |n::r=>if(cU s n.name).2=0 then(if nK (cU s n.name).1 n.cap=true then Bw s r else 7)else(cU s n.name).2
def vq(s:St):Int:=bq [fB 32 vE Node.name s.nodes,fB 128 pK cT.name s.aj,fB 8 DS mo.name s.aY,kN s s.aj,Bw s s.nodes,(iq s).2]
def Q6(e:Int)(r:cZ×Heap):Prop:=(e=0∧r.1=.ret (.tuple []))∨(e≠0∧r.1=.cS (iA e))
theorem eE(a:Int)(l:List Int):bq (a::l)=if a=0 then bq l else a:=rfl
def kO(s:St):List Node→Int
 |[]=>0
 |n::r=>if(dG s n.name).2=0 then(if nK (dG s n.name).1 n.cap=true then kO s r else 7)else(dG s n.name).2
def Bx(s:St):Int:=bq [fB 32 vE Node.name s.nodes,fB 128 pK cT.name s.aj,fB 8 DS mo.name s.aY,kN s s.aj,kO s s.nodes,(iq s).2]
theorem tW(s:St):∀l:List Node,(∀n∈l,n.name≠[])→kO s l=Bw s l
 |[],_=>rfl
 |n::l,h=>by
  unfold kO Bw
  rw[tV s (h n (by simp)),tW s l fun m hm=>h m (by simp[hm])]
theorem Hf(s:St)(hs:jm s):∀(post:List Node)(i:Nat)(hd:s.nodes.drop i=post)(ex:List (List AV))(T:Env)
 (hT:Has T [(1,.ptr 0 0),(7,.int .i64 i)]),
 bA cfg O6 F8 T ⟨(aB s).cells::ex,[],[]⟩ (aJ (.int .i64 (bq [kO s post,(iq s).2]))):=by
 intro post
 induction post with
 |nil=>
  intro i hd ex T hT
  have hge:=bf hd
  have hn:=hs.nodes
  obtain⟨c,h1⟩:=De s hs
  have e:bq [kO s [],(iq s).2]=(iq s).2:=by
   simp only[kO,bq,if_true];split<;>simp_all
  rw[e]
  generalize iq s=z at h1⊢
  exact let ag:List AV:=[.sl .sh (s.nodes.map aA),.sl .sh (s.aj.map af),.sl .sh (s.aY.map aP)];let ax:Heap:={boxes:=ag::ex,toks:=[],loops:=[]:Heap};gG 90 _ hT (.load (lB false 1 ax 0 0 (.sl .sh (s.nodes.map aA)) ag)<|.len (lM .sh aA s.nodes)<|.no (dF ((↑i:Int)<(↑s.nodes.length:Int)))<|.load (lB true 3 ax 0 0 (.agg ag) ag)<|.bE ([.agg ag]) (.tuple [.sl .sh (z.fst.map ai),.int .i64 z.snd]) h1 ⟨rfl,rfl⟩ fe.p<|.fin ((.ret (.int .i64 z.snd),ax)) rfl)
 |cons x post ih=>
  intro i hd ex T hT
  have hlt:=bg hd
  have cq:=aL hd
  have hn:=hs.nodes
  have cn:cc 5 (.sl .sh (s.nodes.map aA)) (.int .i64 (i:Nat))=some (.ref (aA x).cells):=bx (f:=aA) hd rfl
  obtain⟨c,h1⟩:=xS s x.name hs
  have hin:=G9 s x.name
  have hx:=hs.cap x (eo hd)
  have e:kO s (x::post)=if(dG s x.name).2=0 then(if nK (dG s x.name).1 x.cap=true then kO s post else 7)else(dG s x.name).2:=rfl
  rw[eE]
  have h3:=GI (dG s x.name).1 x.cap (by omega) hx.len
  by_cases h0:(dG s x.name).2=0
  ·rw[if_pos h0]at e
   cases hb:nK (dG s x.name).1 x.cap with
   |true=>
    rw[hb]at h3 e
    rw[if_pos rfl]at e
    rw[e]
    generalize dG s x.name=z at h1 h3 h0
    obtain⟨w,er⟩:=z
    simp only at h0 h3
    subst h0
    have cQ:=ih (i+1) cq ex
    rw[eE]at cQ
    exact let ag:List AV:=[.sl .sh (s.nodes.map aA),.sl .sh (s.aj.map af),.sl .sh (s.aY.map aP)];let ax:Heap:={boxes:=ag::ex,toks:=[],loops:=[]:Heap};gG 120 _ hT (.load (lB false 1 ax 0 0 (.sl .sh (s.nodes.map aA)) ag)<|.len (lM .sh aA s.nodes)<|.yes (dT ((↑i:Int)<(↑s.nodes.length:Int)))<|.load (lB true 3 ax 0 0 (.agg ag) ag)<|.load (lB false 1 ax 0 0 (.sl .sh (s.nodes.map aA)) ag)<|.idx cn<|.load (rfl:ak false 1 ax (.ref [.str x.name])=some (.str x.name))<|.bE ([.agg ag,.str x.name]) (.tuple [.sl .sh (List.map ai (w,(0:Int)).fst),.int .i64 (w,(0:Int)).snd]) h1 ⟨rfl,rfl⟩ fe.p<|.ff<|.load (lB false 1 ax 0 0 (.sl .sh (s.nodes.map aA)) ag)<|.idx cn<|.load (rfl:ak false 1 ax (.ref [.sl .sh (x.cap.map ai)])=some (.sl .sh (x.cap.map ai)))<|.aG ([.sl .sh (List.map ai (w,(0:Int)).fst),.sl .sh (x.cap.map ai)]) (.bool true) h3<|.ff<|.bin (iI i)<|.aT F8 [(1,.ptr 0 0),(7,.int .i64 (↑(i+1)))] (ax) (fun T hT=>(cQ T hT)))
   |false=>
    rw[hb]at h3 e
    rw[if_neg (by decide)]at e
    rw[e,if_neg (by decide)]
    generalize dG s x.name=z at h1 h3 h0
    obtain⟨w,er⟩:=z
    simp only at h0 h3
    subst h0
    exact let ag:List AV:=[.sl .sh (s.nodes.map aA),.sl .sh (s.aj.map af),.sl .sh (s.aY.map aP)];let ax:Heap:={boxes:=ag::ex,toks:=[],loops:=[]:Heap};gG 120 _ hT (.load (lB false 1 ax 0 0 (.sl .sh (s.nodes.map aA)) ag)<|.len (lM .sh aA s.nodes)<|.yes (dT ((↑i:Int)<(↑s.nodes.length:Int)))<|.load (lB true 3 ax 0 0 (.agg ag) ag)<|.load (lB false 1 ax 0 0 (.sl .sh (s.nodes.map aA)) ag)<|.idx cn<|.load (rfl:ak false 1 ax (.ref [.str x.name])=some (.str x.name))<|.bE ([.agg ag,.str x.name]) (.tuple [.sl .sh (List.map ai (w,(0:Int)).fst),.int .i64 (w,(0:Int)).snd]) h1 ⟨rfl,rfl⟩ fe.p<|.ff<|.load (lB false 1 ax 0 0 (.sl .sh (s.nodes.map aA)) ag)<|.idx cn<|.load (rfl:ak false 1 ax (.ref [.sl .sh (x.cap.map ai)])=some (.sl .sh (x.cap.map ai)))<|.aG ([.sl .sh (List.map ai (w,(0:Int)).fst),.sl .sh (x.cap.map ai)]) (.bool false) h3<|.tt<|.fin ((.ret (.int .i64 7),ax)) rfl)
  ·rw[if_neg h0]at e
   rw[e,if_neg h0]
   generalize dG s x.name=z at h1 h3 h0⊢
   obtain⟨w,er⟩:=z
   simp only at h0 h3⊢
   exact let ag:List AV:=[.sl .sh (s.nodes.map aA),.sl .sh (s.aj.map af),.sl .sh (s.aY.map aP)];let ax:Heap:={boxes:=ag::ex,toks:=[],loops:=[]:Heap};gG 120 _ hT (.load (lB false 1 ax 0 0 (.sl .sh (s.nodes.map aA)) ag)<|.len (lM .sh aA s.nodes)<|.yes (dT ((↑i:Int)<(↑s.nodes.length:Int)))<|.load (lB true 3 ax 0 0 (.agg ag) ag)<|.load (lB false 1 ax 0 0 (.sl .sh (s.nodes.map aA)) ag)<|.idx cn<|.load (rfl:ak false 1 ax (.ref [.str x.name])=some (.str x.name))<|.bE ([.agg ag,.str x.name]) (.tuple [.sl .sh (List.map ai (w,er).fst),.int .i64 (w,er).snd]) h1 ⟨rfl,rfl⟩ fe.p<|.yes (show((w,er).snd !=(0:Int))=true from(by simpa using h0))<|.fin ((.ret (.int .i64 (w,er).snd),ax)) rfl)
theorem Hg(s:St)(hs:jm s):∀(post:List cT)(i:Nat)(hd:s.aj.drop i=post)(ex:List (List AV))(T:Env)
 (hT:Has T [(1,.ptr 0 0),(4,.int .i64 i)]),
 bA cfg O6 Bd T ⟨(aB s).cells::ex,[],[]⟩ (aJ (.int .i64 (bq [kN s post,kO s s.nodes,(iq s).2]))):=by
 intro post
 induction post with
 |nil=>
  intro i hd ex T hT
  have hge:=bf hd
  have hp:=hs.aj
  have h1:=Hf s hs s.nodes 0 rfl ex
  have e:bq [kN s [],kO s s.nodes,(iq s).2]=bq [kO s s.nodes,(iq s).2]:=rfl
  rw[e]
  exact let ag:List AV:=[.sl .sh (s.nodes.map aA),.sl .sh (s.aj.map af),.sl .sh (s.aY.map aP)];let ax:Heap:={boxes:=ag::ex,toks:=[],loops:=[]:Heap};gG 90 _ hT (.load (lB false 1 ax 0 1 (.sl .sh (s.aj.map af)) ag)<|.len (lM .sh af s.aj)<|.no (dF ((↑i:Int)<(↑s.aj.length:Int)))<|.aT F8 [(1,.ptr 0 0),(7,.int .i64 0)] (ax) (fun T hT=>(h1 T hT)))
 |cons x post ih=>
  intro i hd ex T hT
  have hlt:=bg hd
  have cq:=aL hd
  have hp:=hs.aj
  have cn:cc 11 (.sl .sh (s.aj.map af)) (.int .i64 (i:Nat))=some (.ref (af x).cells):=bx (f:=af) hd rfl
  have h1:=iT s.nodes x.node hs.nodes
  have e:kN s (x::post)=if x.node≠[]∧cL Node.name s.nodes x.node=none then 3 else kN s post:=rfl
  rw[eE]
  by_cases hn:x.node=[]
  ·have e':kN s (x::post)=kN s post:=by rw[e,if_neg (by simp[hn])]
   rw[e']
   have cQ:=ih (i+1) cq ex
   rw[eE]at cQ
   exact let ag:List AV:=[.sl .sh (s.nodes.map aA),.sl .sh (s.aj.map af),.sl .sh (s.aY.map aP)];let ax:Heap:={boxes:=ag::ex,toks:=[],loops:=[]:Heap};gG 120 _ hT (.load (lB false 1 ax 0 1 (.sl .sh (s.aj.map af)) ag)<|.len (lM .sh af s.aj)<|.yes (dT ((↑i:Int)<(↑s.aj.length:Int)))<|.load (lB false 1 ax 0 1 (.sl .sh (s.aj.map af)) ag)<|.idx cn<|.load (rfl:ak false 1 ax (.ref [.str x.node])=some (.str x.node))<|.yes (show(x.node==[])=true from(by simpa using hn))<|.bin (iI i)<|.aT Bd [(1,.ptr 0 0),(4,.int .i64 (↑(i+1)))] (ax) (fun T hT=>(cQ T hT)))
  ·cases hf:cL Node.name s.nodes x.node with
   |none=>
    rw[hf]at h1
    have e':kN s (x::post)=3:=by rw[e,if_pos ⟨hn,hf⟩]
    rw[e',if_neg (by decide)]
    exact let ag:List AV:=[.sl .sh (s.nodes.map aA),.sl .sh (s.aj.map af),.sl .sh (s.aY.map aP)];let ax:Heap:={boxes:=ag::(ex++[[AV.str [],.sl .full [],.sl .full [],.sl .full [],.bool false]]),toks:=[],loops:=[]:Heap};let aS:List AV:=[.str [],.sl .sh [],.sl .sh [],.sl .sh [],.bool false];let bt:Heap:={boxes:=ag::ex,toks:=[],loops:=[]:Heap};let bR:Heap:={boxes:=ag::(ex++[aS]),toks:=[],loops:=[]:Heap};let dm:List AV:=[.sl .sh (s.nodes.map aA),.str x.node];gG 120 _ hT (.load (lB false 1 bt 0 1 (.sl .sh (s.aj.map af)) ag)<|.len (lM .sh af s.aj)<|.yes (dT ((↑i:Int)<(↑s.aj.length:Int)))<|.load (lB false 1 bt 0 1 (.sl .sh (s.aj.map af)) ag)<|.idx cn<|.load (rfl:ak false 1 bt (.ref [.str x.node])=some (.str x.node))<|.no (show(x.node==[])=false from Bool.eq_false_iff.2 (by simpa using hn))<|.load (lB false 1 ax 0 0 (.sl .sh (s.nodes.map aA)) ag)<|.load (lB false 1 ax 0 1 (.sl .sh (s.aj.map af)) ag)<|.idx cn<|.load (rfl:ak false 1 ax (.ref [.str x.node])=some (.str x.node))<|.aG (dm) (.tuple [.agg aS,.bool false]) h1<|.store (show aW 5 ax (.ptr (ag::ex).length 0) (.agg aS)=some (bR)from aC (cs:=[.str [],.sl .full [],.sl .full [],.sl .full [],.bool false]) (cs':=aS) (by simp+zetaDelta) rfl (by simp+zetaDelta [List.set_append]))<|.tt<|.fin ((.ret (.int .i64 3),bR)) rfl)
   |some n=>
    rw[hf]at h1
    have e':kN s (x::post)=kN s post:=by rw[e,if_neg (by simp[hf])]
    rw[e']
    have cQ:=ih (i+1) cq (ex++[(aA n).cells])
    rw[eE]at cQ
    exact let ag:List AV:=[.sl .sh (s.nodes.map aA),.sl .sh (s.aj.map af),.sl .sh (s.aY.map aP)];let ax:List AV:=[.str n.name,.sl .sh (n.cap.map ai),.sl .sh (n.labels.map aI),.sl .sh (n.aV.map bu),.bool n.br];let aS:Heap:={boxes:=ag::(ex++[[AV.str [],.sl .full [],.sl .full [],.sl .full [],.bool false]]),toks:=[],loops:=[]:Heap};let bt:Heap:={boxes:=ag::ex,toks:=[],loops:=[]:Heap};let bR:Heap:={boxes:=ag::(ex++[ax]),toks:=[],loops:=[]:Heap};let dm:List AV:=[.sl .sh (s.nodes.map aA),.str x.node];gG 120 _ hT (.load (lB false 1 bt 0 1 (.sl .sh (s.aj.map af)) ag)<|.len (lM .sh af s.aj)<|.yes (dT ((↑i:Int)<(↑s.aj.length:Int)))<|.load (lB false 1 bt 0 1 (.sl .sh (s.aj.map af)) ag)<|.idx cn<|.load (rfl:ak false 1 bt (.ref [.str x.node])=some (.str x.node))<|.no (show(x.node==[])=false from Bool.eq_false_iff.2 (by simpa using hn))<|.load (lB false 1 aS 0 0 (.sl .sh (s.nodes.map aA)) ag)<|.load (lB false 1 aS 0 1 (.sl .sh (s.aj.map af)) ag)<|.idx cn<|.load (rfl:ak false 1 aS (.ref [.str x.node])=some (.str x.node))<|.aG (dm) (.tuple [.agg ax,.bool true]) h1<|.store (show aW 5 aS (.ptr (ag::ex).length 0) (.agg ax)=some (bR)from aC (cs:=[.str [],.sl .full [],.sl .full [],.sl .full [],.bool false]) (cs':=ax) (by simp+zetaDelta) rfl (by simp+zetaDelta [List.set_append]))<|.ff<|.bin (iI i)<|.aT Bd [(1,.ptr 0 0),(4,.int .i64 (↑(i+1)))] (bR) (fun T hT=>(cQ T hT)))
theorem Dj(s:St)(hs:jm s):aq cfg 52 [aB s] (.int .i64 (Bx s)):=by
 refine aq.run (X6 _ _) ?_
 have c1:=GC s.nodes
 have c2:=C2 s.aj
 have c3:=GR s.aY
 have h:=Hg s hs s.aj 0 rfl []
 unfold Bx
 generalize fB 32 vE Node.name s.nodes=e1 at c1⊢
 generalize fB 128 pK cT.name s.aj=e2 at c2⊢
 generalize fB 8 DS mo.name s.aY=e3 at c3⊢
 rw[eE]
 by_cases h1:e1=0
 ·subst h1
  rw[if_pos rfl,eE]
  by_cases h2:e2=0
  ·subst h2
   rw[if_pos rfl,eE]
   by_cases h3:e3=0
   ·subst h3
    rw[if_pos rfl]
    exact gG 90 [] trivial (.aG ([.sl .sh (s.nodes.map aA)]) (.int .i64 0) c1<|.ff<|.aG ([.sl .sh (s.aj.map af)]) (.int .i64 0) c2<|.ff<|.aG ([.sl .sh (s.aY.map aP)]) (.int .i64 0) c3<|.ff<|.aT Bd [(1,.ptr 0 0),(4,.int .i64 0)] ({boxes:=[[.sl .sh (s.nodes.map aA),.sl .sh (s.aj.map af),.sl .sh (s.aY.map aP)]],toks:=[],loops:=[]:Heap}) (fun T hT=>(h T hT)))
   ·rw[if_neg h3]
    exact gG 90 [] trivial (.aG ([.sl .sh (s.nodes.map aA)]) (.int .i64 0) c1<|.ff<|.aG ([.sl .sh (s.aj.map af)]) (.int .i64 0) c2<|.ff<|.aG ([.sl .sh (s.aY.map aP)]) (.int .i64 e3) c3<|.yes (show(e3 !=(0:Int))=true from(by simpa using h3))<|.fin ((.ret (.int .i64 e3),{boxes:=[[.sl .sh (s.nodes.map aA),.sl .sh (s.aj.map af),.sl .sh (s.aY.map aP)]],toks:=[],loops:=[]:Heap})) rfl)
  ·rw[if_neg h2]
   exact gG 90 [] trivial (.aG ([.sl .sh (s.nodes.map aA)]) (.int .i64 0) c1<|.ff<|.aG ([.sl .sh (s.aj.map af)]) (.int .i64 e2) c2<|.yes (show(e2 !=(0:Int))=true from(by simpa using h2))<|.fin ((.ret (.int .i64 e2),{boxes:=[[.sl .sh (s.nodes.map aA),.sl .sh (s.aj.map af),.sl .sh (s.aY.map aP)]],toks:=[],loops:=[]:Heap})) rfl)
 ·rw[if_neg h1]
  exact gG 90 [] trivial (.aG ([.sl .sh (s.nodes.map aA)]) (.int .i64 e1) c1<|.yes (show(e1 !=(0:Int))=true from(by simpa using h1))<|.fin ((.ret (.int .i64 e1),{boxes:=[[.sl .sh (s.nodes.map aA),.sl .sh (s.aj.map af),.sl .sh (s.aY.map aP)]],toks:=[],loops:=[]:Heap})) rfl)
theorem tX{X:Type}{most:Nat}{ck:X→Int}{nm:X→List UInt8}{s:List X}(h:fB most ck nm s=0):s.length≤most∧∀x∈s,ck x=0:=by
 unfold fB at h
 split at h
 ·rename_i hl
  refine⟨hl,?_⟩
  have key:∀(post:List X)(i:Nat),oE ck nm s i post=0→∀x∈post,ck x=0:=by
   intro post
   induction post with
   |nil=>intro i _ x hx;cases hx
   |cons y post ih=>
    intro i h x hx
    unfold oE at h
    split at h
    ·rename_i h0
     split at h
     ·cases h
     ·rcases List.mem_cons.1 hx with rfl|hx
      ·exact h0
      ·exact ih _ h x hx
    ·rename_i h0;exact absurd h h0
  exact key s 0 h
 ·cases h
theorem xW{n:Node}(h:vE n=0):n.name≠[]:=by
 intro e
 have:=jA h (if isName n.name then 0 else 3) (by simp)
 rw[e]at this
 simp[isName]at this
theorem JR(s:St):Bx s=vq s:=by
 unfold Bx vq
 by_cases h:fB 32 vE Node.name s.nodes=0
 ·rw[tW s s.nodes fun n hn=>xW ((tX h).2 n hn)]
 ·simp[bq,h]
theorem Hh(s:St)(hs:jm s):aq cfg 52 [aB s] (.int .i64 (vq s)):=by
 have:=Dj s hs
 rwa [JR]at this
structure Q7(s:St):Prop where
 cap:∀n∈s.nodes,pJ n.cap
 need:∀p∈s.aj,pJ p.need
theorem Q8{s:St}(h:Dh s)(r:Q7 s):jm s:=
 ⟨by have:=h.nodes;omega,by have:=h.aj;omega,fun n hn=>⟨by have:=(tL (h.node n hn)).cap;omega,r.cap n hn⟩,fun p hp=>⟨by have:=(oH (h.SJ p hp)).need;omega,r.need p hp⟩⟩
theorem Hj(s:St)(r:Q7 s):aq cfg 15 [aB s] (.bool (rK s&&vq s==0)):=by
 refine aq.run (XO _ _) ?_
 have h1:=Di s
 cases hf:rK s with
 |false=>
  rw[hf]at h1
  exact let ag:List AV:=[.sl .sh (s.nodes.map aA),.sl .sh (s.aj.map af),.sl .sh (s.aY.map aP)];gG 60 [] trivial (.aG ([.agg ag]) (.bool false) h1<|.ff<|.fin ((.ret (.bool false),{boxes:=[ag],toks:=[],loops:=[]:Heap})) rfl)
 |true=>
  rw[hf]at h1
  have fs:=Q5 hf
  have h2:=xV s fs
  have h3:=Hh s (Q8 fs r)
  rw[Bool.true_and]
  exact let ag:List AV:=[.sl .sh (s.nodes.map aA),.sl .sh (s.aj.map af),.sl .sh (s.aY.map aP)];gG 60 [] trivial (.aG ([.agg ag]) (.bool true) h1<|.tt<|.aG ([.agg ag]) (.agg ag) h2<|.aG ([.agg ag]) (.int .i64 (vq s)) h3<|.fin ((.ret (.bool (vq s==(0:Int))),{boxes:=[ag],toks:=[],loops:=[]:Heap})) rfl)
end Go.Aa.T
namespace Go.Aa.T
open Go.Aa Go.Proofs
structure Yy(n:Node):Prop where
 cap:n.cap.length<9223372036854775807
 labels:n.labels.length<9223372036854775807
 aV:n.aV.length<9223372036854775807
structure Yz(p:cT):Prop where
 need:p.need.length<9223372036854775807
 labels:p.labels.length<9223372036854775807
 bS:p.bS.length<9223372036854775807
 bh:p.bh.length<9223372036854775807
structure Y3(s:St):Prop where
 nodes:s.nodes.length<9223372036854775807
 aj:s.aj.length<9223372036854775807
 aY:s.aY.length<9223372036854775807
 node:∀x∈s.nodes,Yy x
 SJ:∀x∈s.aj,Yz x
 Y4:∀x∈s.aY,x.bS.length<9223372036854775807
end Go.Aa.T
namespace Go.Aa.T
open Go.Aa Go.Proofs
theorem gO{α:Type}{f:α→AV}{Q:AV→Prop}{S:α→Prop}(h:∀y,Q y→∃x,y=f x∧S x):∀(l:List AV),(∀y∈l,Q y)→∃t:List α,l=t.map f∧∀x∈t,S x
 |[],_=>⟨[],rfl,by simp⟩
 |y::l,hl=>by
  obtain⟨x,rfl,hx⟩:=h y (hl y (by simp))
  obtain⟨t,rfl,ht⟩:=gO h l (fun z hz=>hl z (by simp[hz]))
  exact⟨x::t,rfl,by simpa using⟨hx,ht⟩⟩
theorem jV{m:Int}(h:(Lit.int .i64 m).wf=true): -9223372036854775808≤m∧m≤9223372036854775807:=by
 have h':IntKind.i64.min≤m∧m≤IntKind.i64.max:=by simpa[Lit.wf,IntKind.has]using h
 have e1:IntKind.i64.min= -9223372036854775808:=rfl
 have e2:IntKind.i64.max=9223372036854775807:=rfl
 omega
theorem Q9{R:TypeId→List AV→Prop}{f1 f2:Field}{cs:List AV}(h:Cz R (#[f1,f2]:Array Field).toList cs):∃a1 a2,cs=a1++(a2)∧R f1.type a1∧R f2.type a2:=by
 obtain⟨a1,b1,rfl,h1,a2,b2,rfl,h2,e⟩:=(show Cz R [f1,f2] cs from h)
 cases e
 exact⟨a1,a2,by simp,h1,h2⟩
theorem Hl{R:TypeId→List AV→Prop}{f1 f2 f3:Field}{cs:List AV}(h:Cz R (#[f1,f2,f3]:Array Field).toList cs):∃a1 a2 a3,cs=a1++(a2++(a3))∧R f1.type a1∧R f2.type a2∧R f3.type a3:=by
 obtain⟨a1,b1,rfl,h1,a2,b2,rfl,h2,a3,b3,rfl,h3,e⟩:=(show Cz R [f1,f2,f3] cs from h)
 cases e
 exact⟨a1,a2,a3,by simp,h1,h2,h3⟩
theorem Vg{R:TypeId→List AV→Prop}{f1 f2 f3 f4 f5:Field}{cs:List AV}(h:Cz R (#[f1,f2,f3,f4,f5]:Array Field).toList cs):∃a1 a2 a3 a4 a5,cs=a1++(a2++(a3++(a4++(a5))))∧R f1.type a1∧R f2.type a2∧R f3.type a3∧R f4.type a4∧R f5.type a5:=by
 obtain⟨a1,b1,rfl,h1,a2,b2,rfl,h2,a3,b3,rfl,h3,a4,b4,rfl,h4,a5,b5,rfl,h5,e⟩:=(show Cz R [f1,f2,f3,f4,f5] cs from h)
 cases e
 exact⟨a1,a2,a3,a4,a5,by simp,h1,h2,h3,h4,h5⟩
theorem Ra{R:TypeId→List AV→Prop}{f1 f2 f3 f4 f5 f6 f7 f8 f9 f10 f11:Field}{cs:List AV}(h:Cz R (#[f1,f2,f3,f4,f5,f6,f7,f8,f9,f10,f11]:Array Field).toList cs):∃a1 a2 a3 a4 a5 a6 a7 a8 a9 Rb Rc,cs=a1++(a2++(a3++(a4++(a5++(a6++(a7++(a8++(a9++(Rb++(Rc))))))))))∧R f1.type a1∧R f2.type a2∧R f3.type a3∧R f4.type a4∧R f5.type a5∧R f6.type a6∧R f7.type a7∧R f8.type a8∧R f9.type a9∧R f10.type Rb∧R f11.type Rc:=by
 obtain⟨a1,b1,rfl,h1,a2,b2,rfl,h2,a3,b3,rfl,h3,a4,b4,rfl,h4,a5,b5,rfl,h5,a6,b6,rfl,h6,a7,b7,rfl,h7,a8,b8,rfl,h8,a9,b9,rfl,h9,Rb,Y5,rfl,h10,Rc,Y6,rfl,h11,e⟩:=(show Cz R [f1,f2,f3,f4,f5,f6,f7,f8,f9,f10,f11] cs from h)
 cases e
 exact⟨a1,a2,a3,a4,a5,a6,a7,a8,a9,Rb,Rc,by simp,h1,h2,h3,h4,h5,h6,h7,h8,h9,h10,h11⟩
theorem Re{k:Nat}{y:AV}(h:mY Tryz.prog (k+2) 163 y):∃x:aH,y=ai x∧(-9223372036854775808≤x.n∧x.n≤9223372036854775807):=by
 obtain⟨cs,rfl,hh⟩:=eG Tryz.underlying163 h
 obtain⟨a1,a2,rfl,h1,h2⟩:=Q9 hh
 obtain⟨s1,rfl,-⟩:=dn Tryz.underlying9 h1
 obtain⟨s2,rfl,w2⟩:=oz Tryz.underlying2 h2
 have r2:=jV w2
 exact⟨⟨s1,s2⟩,rfl,r2⟩
theorem Lm{k:Nat}{y:List AV}(h:Ty Tryz.prog (k+3) 48 y):∃t:List aH,y=[.sl .sh (t.map ai)]∧∀x∈t,-9223372036854775808≤x.n∧x.n≤9223372036854775807:=by
 obtain⟨l,rfl,-,hl⟩:=fZ Tryz.underlying48 h
 obtain⟨t,rfl,hs⟩:=gO (S:=fun x:aH=> -9223372036854775808≤x.n∧x.n≤9223372036854775807) (fun y hy=>Re hy) l hl
 exact⟨t,rfl,hs⟩
theorem Vh{k:Nat}{y:AV}(h:mY Tryz.prog (k+2) 99 y):∃x:fL,y=aI x∧(True):=by
 obtain⟨cs,rfl,hh⟩:=eG Tryz.underlying99 h
 obtain⟨a1,a2,rfl,h1,h2⟩:=Q9 hh
 obtain⟨s1,rfl,-⟩:=dn Tryz.underlying9 h1
 obtain⟨s2,rfl,-⟩:=dn Tryz.underlying9 h2
 exact⟨⟨s1,s2⟩,rfl,trivial⟩
theorem Ln{k:Nat}{y:List AV}(h:Ty Tryz.prog (k+3) 50 y):∃t:List fL,y=[.sl .sh (t.map aI)]∧∀x∈t,True:=by
 obtain⟨l,rfl,-,hl⟩:=fZ Tryz.underlying50 h
 obtain⟨t,rfl,hs⟩:=gO (S:=fun x:fL=>True) (fun y hy=>Vh hy) l hl
 exact⟨t,rfl,hs⟩
theorem Rf{k:Nat}{y:AV}(h:mY Tryz.prog (k+2) 124 y):∃x:cR,y=bu x∧(True):=by
 obtain⟨cs,rfl,hh⟩:=eG Tryz.underlying124 h
 obtain⟨a1,a2,a3,rfl,h1,h2,h3⟩:=Hl hh
 obtain⟨s1,rfl,-⟩:=dn Tryz.underlying9 h1
 obtain⟨s2,rfl,-⟩:=dn Tryz.underlying9 h2
 obtain⟨s3,rfl⟩:=pQ Tryz.underlying4 h3
 exact⟨⟨s1,s2,s3⟩,rfl,trivial⟩
theorem Rg{k:Nat}{y:List AV}(h:Ty Tryz.prog (k+3) 51 y):∃t:List cR,y=[.sl .sh (t.map bu)]∧∀x∈t,True:=by
 obtain⟨l,rfl,-,hl⟩:=fZ Tryz.underlying51 h
 obtain⟨t,rfl,hs⟩:=gO (S:=fun x:cR=>True) (fun y hy=>Rf hy) l hl
 exact⟨t,rfl,hs⟩
theorem Vi{k:Nat}{y:AV}(h:mY Tryz.prog (k+4) 53 y):∃x:Node,y=aA x∧(pJ x.cap):=by
 obtain⟨cs,rfl,hh⟩:=eG Tryz.underlying53 h
 obtain⟨a1,a2,a3,a4,a5,rfl,h1,h2,h3,h4,h5⟩:=Vg hh
 obtain⟨s1,rfl,-⟩:=dn Tryz.underlying9 h1
 obtain⟨s2,rfl,w2⟩:=Lm h2
 obtain⟨s3,rfl,w3⟩:=Ln h3
 obtain⟨s4,rfl,w4⟩:=Rg h4
 obtain⟨s5,rfl⟩:=pQ Tryz.underlying4 h5
 exact⟨⟨s1,s2,s3,s4,s5⟩,rfl,w2⟩
theorem Rh{k:Nat}{y:List AV}(h:Ty Tryz.prog (k+5) 22 y):∃t:List Node,y=[.sl .sh (t.map aA)]∧∀x∈t,pJ x.cap:=by
 obtain⟨l,rfl,-,hl⟩:=fZ Tryz.underlying22 h
 obtain⟨t,rfl,hs⟩:=gO (S:=fun x:Node=>pJ x.cap) (fun y hy=>Vi hy) l hl
 exact⟨t,rfl,hs⟩
theorem Vj{k:Nat}{y:AV}(h:mY Tryz.prog (k+2) 93 y):∃x:Term,y=aX x∧(True):=by
 obtain⟨cs,rfl,hh⟩:=eG Tryz.underlying93 h
 obtain⟨a1,a2,a3,rfl,h1,h2,h3⟩:=Hl hh
 obtain⟨s1,rfl,w1⟩:=oz Tryz.underlying3 h1
 have r1:=jV w1
 obtain⟨s2,rfl,-⟩:=dn Tryz.underlying9 h2
 obtain⟨s3,rfl,-⟩:=dn Tryz.underlying9 h3
 exact⟨⟨s1,s2,s3⟩,rfl,trivial⟩
theorem Lo{k:Nat}{y:List AV}(h:Ty Tryz.prog (k+3) 78 y):∃t:List Term,y=[.sl .sh (t.map aX)]∧∀x∈t,True:=by
 obtain⟨l,rfl,-,hl⟩:=fZ Tryz.underlying78 h
 obtain⟨t,rfl,hs⟩:=gO (S:=fun x:Term=>True) (fun y hy=>Vj hy) l hl
 exact⟨t,rfl,hs⟩
theorem Ri{k:Nat}{y:AV}(h:mY Tryz.prog (k+2) 239 y):∃x:je,y=aQ x∧(True):=by
 obtain⟨cs,rfl,hh⟩:=eG Tryz.underlying239 h
 obtain⟨a1,a2,a3,rfl,h1,h2,h3⟩:=Hl hh
 obtain⟨s1,rfl,-⟩:=dn Tryz.underlying9 h1
 obtain⟨s2,rfl,-⟩:=dn Tryz.underlying9 h2
 obtain⟨s3,rfl⟩:=pQ Tryz.underlying4 h3
 exact⟨⟨s1,s2,s3⟩,rfl,trivial⟩
theorem Rj{k:Nat}{y:List AV}(h:Ty Tryz.prog (k+3) 79 y):∃t:List je,y=[.sl .sh (t.map aQ)]∧∀x∈t,True:=by
 obtain⟨l,rfl,-,hl⟩:=fZ Tryz.underlying79 h
 obtain⟨t,rfl,hs⟩:=gO (S:=fun x:je=>True) (fun y hy=>Ri hy) l hl
 exact⟨t,rfl,hs⟩
theorem Vk{k:Nat}{y:AV}(h:mY Tryz.prog (k+4) 81 y):∃x:cT,y=af x∧(pJ x.need∧nH x.prio∧nH x.most):=by
 obtain⟨cs,rfl,hh⟩:=eG Tryz.underlying81 h
 obtain⟨a1,a2,a3,a4,a5,a6,a7,a8,a9,Rb,Rc,rfl,h1,h2,h3,h4,h5,h6,h7,h8,h9,h10,h11⟩:=Ra hh
 obtain⟨s1,rfl,-⟩:=dn Tryz.underlying9 h1
 obtain⟨s2,rfl,-⟩:=dn Tryz.underlying9 h2
 obtain⟨s3,rfl,w3⟩:=oz Tryz.underlying3 h3
 have r3:=jV w3
 obtain⟨s4,rfl,w4⟩:=Lm h4
 obtain⟨s5,rfl,w5⟩:=Ln h5
 obtain⟨s6,rfl,w6⟩:=Lo h6
 obtain⟨s7,rfl,w7⟩:=Rj h7
 obtain⟨s8,rfl,-⟩:=dn Tryz.underlying9 h8
 obtain⟨s9,rfl,w9⟩:=oz Tryz.underlying3 h9
 have r9:=jV w9
 obtain⟨YA,rfl,-⟩:=dn Tryz.underlying9 h10
 obtain⟨YB,rfl⟩:=pQ Tryz.underlying4 h11
 exact⟨⟨s1,s2,s3,s4,s5,s6,s7,s8,s9,YA,YB⟩,rfl,⟨w4,r3,r9⟩⟩
theorem Rk{k:Nat}{y:List AV}(h:Ty Tryz.prog (k+5) 23 y):∃t:List cT,y=[.sl .sh (t.map af)]∧∀x∈t,pJ x.need∧nH x.prio∧nH x.most:=by
 obtain⟨l,rfl,-,hl⟩:=fZ Tryz.underlying23 h
 obtain⟨t,rfl,hs⟩:=gO (S:=fun x:cT=>pJ x.need∧nH x.prio∧nH x.most) (fun y hy=>Vk hy) l hl
 exact⟨t,rfl,hs⟩
theorem Vl{k:Nat}{y:AV}(h:mY Tryz.prog (k+4) 95 y):∃x:mo,y=aP x∧(nH x.floor):=by
 obtain⟨cs,rfl,hh⟩:=eG Tryz.underlying95 h
 obtain⟨a1,a2,a3,rfl,h1,h2,h3⟩:=Hl hh
 obtain⟨s1,rfl,-⟩:=dn Tryz.underlying9 h1
 obtain⟨s2,rfl,w2⟩:=Lo h2
 obtain⟨s3,rfl,w3⟩:=oz Tryz.underlying3 h3
 have r3:=jV w3
 exact⟨⟨s1,s2,s3⟩,rfl,r3⟩
theorem Rl{k:Nat}{y:List AV}(h:Ty Tryz.prog (k+5) 24 y):∃t:List mo,y=[.sl .sh (t.map aP)]∧∀x∈t,nH x.floor:=by
 obtain⟨l,rfl,-,hl⟩:=fZ Tryz.underlying24 h
 obtain⟨t,rfl,hs⟩:=gO (S:=fun x:mo=>nH x.floor) (fun y hy=>Vl hy) l hl
 exact⟨t,rfl,hs⟩
theorem Vm{k:Nat}{y:AV}(h:mY Tryz.prog (k+6) 26 y):∃x:St,y=aB x∧(Q7 x∧(∀p∈x.aj,nH p.prio∧nH p.most)∧∀b∈x.aY,nH b.floor):=by
 obtain⟨cs,rfl,hh⟩:=eG Tryz.underlying26 h
 obtain⟨a1,a2,a3,rfl,h1,h2,h3⟩:=Hl hh
 obtain⟨s1,rfl,w1⟩:=Rh h1
 obtain⟨s2,rfl,w2⟩:=Rk h2
 obtain⟨s3,rfl,w3⟩:=Rl h3
 exact⟨⟨s1,s2,s3⟩,rfl,⟨⟨w1,fun p hp=>(w2 p hp).1⟩,fun p hp=>(w2 p hp).2,w3⟩⟩
end Go.Aa.T
namespace Go.Aa.T
open Go.Aa Go.Proofs
end Go.Aa.T
namespace Go.Aa
def pw(k:Nat):Nat:=2^k
theorem Rm(k:Nat):pw k=2^k:=rfl
abbrev kP:Ieee.Format:=FloatKind.f64.format
def mX(n g:Nat):Nat:=n/g+(decide (g<2*(n%g))||(g==2*(n%g)&&n/g%2==1)).toNat
theorem NB(neg:Bool)(n drop:Nat):Ieee.Toward.even.cut neg n drop=mX n (2^(min drop (n.log2+2))):=by
 unfold Ieee.Toward.cut mX
 simp only[Nat.shiftLeft_eq,Nat.one_mul]
theorem rL(n:Nat):mX n 1=n:=by
 unfold mX
 simp[Nat.mod_one]
theorem By{n g K:Nat}(hg:0<g)(h:K*g≤n):K≤mX n g:=by
 unfold mX
 have:=(Nat.le_div_iff_mul_le hg).2 h
 omega
theorem Bz{n g K:Nat}(hg:0<g)(h:n≤K*g):mX n g≤K:=by
 unfold mX
 have h1:n/g≤K:=by
  have:=Nat.div_le_div_right (c:=g) h
  rwa [Nat.mul_div_cancel _ hg]at this
 rcases Nat.lt_or_ge (n/g) K with h2|h2
 ·have:(decide (g<2*(n%g))||(g==2*(n%g)&&n/g%2==1)).toNat≤1:=Bool.toNat_le _
  omega
 ·have e:n/g=K:=by omega
  have h3:n%g=0:=by
   have:=Nat.div_add_mod n g
   rw[e,Nat.mul_comm]at this
   omega
  have e1:decide (g<2*(n%g))=false:=by rw[h3];simp
  have e2:(g==2*(n%g))=false:=by rw[h3];simp;omega
  rw[e1,e2,e]
  simp
theorem Ho{n g:Nat}(hg:0<g):2*(mX n g*g)≤2*n+g∧2*n≤2*(mX n g*g)+g:=by
 unfold mX
 have h1:=Nat.div_add_mod n g
 have h2:=Nat.mod_lt n hg
 have hm:n/g*g=g*(n/g):=Nat.mul_comm _ _
 rcases Nat.lt_trichotomy g (2*(n%g))with h|h|h
 ·simp only[h,decide_true,Bool.true_or,Bool.toNat_true,Nat.add_mul,Nat.one_mul]
  omega
 ·have e1:decide (g<2*(n%g))=false:=by simp;omega
  rw[e1,Bool.false_or]
  generalize(g==2*(n%g)&&n/g%2==1)=b
  cases b
  ·simp only[Bool.toNat_false,Nat.add_zero];omega
  ·simp only[Bool.toNat_true,Nat.add_mul,Nat.one_mul];omega
 ·have e1:decide (g<2*(n%g))=false:=by simp;omega
  have e2:(g==2*(n%g))=false:=by simp;omega
  rw[e1,e2]
  simp only[Bool.false_and,Bool.or_self,Bool.toNat_false,Nat.add_zero]
  omega
def pU(s:Bool)(r:Nat):Nat:=if s then 9223372036854775808+r else r
theorem Hp{s:Bool}{r:Nat}(h:r<9223372036854775808):cI (pU s r)=if s then-(r:Int)else r:=by
 unfold cI pU
 cases s
 ·simp only[Bool.false_eq_true,if_false]
  rw[if_neg (by omega)]
  omega
 ·simp only[if_true]
  rw[if_pos (by omega)]
  omega
theorem Hq{s:Bool}{r:Nat}(h:r≤9218868437227405312):NN (pU s r)∧pU s r<18446744073709551616:=by
 rw[ou]
 unfold pU
 split<;>omega
theorem xX{s:Bool}{r:Nat}(h:r<9223372036854775808):(pU s r/9223372036854775808%2=1)↔s=true:=by
 unfold pU
 cases s
 ·simp only[Bool.false_eq_true,if_false,iff_false];omega
 ·simp only[if_true,iff_true];omega
theorem vr{s:Bool}{r:Nat}(h:r<9223372036854775808):pU s r%9223372036854775808=r:=by
 unfold pU
 split<;>omega
def rung(m:Nat)(p:Int):Nat:=
 if m=0 then 0 else
 let last:=max (p+m.log2-52) (-1074)
 min ((last+1074).toNat*4503599627370496+mX (m*2^(p-last).toNat) (2^(min (last-p).toNat ((m*2^(p-last).toNat).log2+2)))) 9218868437227405312
theorem iJ(s:Bool)(m:Nat)(p:Int):kP.nearest s m p=pU s (rung m p):=by
 have e1:kP.fractionBits=52:=rfl
 have e2:kP.binade=4503599627370496:=rfl
 have e3:kP.infRung=9218868437227405312:=rfl
 have e4:kP.leastPlace= -1074:=rfl
 unfold Ieee.Format.nearest rung
 by_cases h:m=0
 ·rw[if_pos h,if_pos h];rfl
 ·rw[if_neg h,if_neg h]
  simp only[e1,e2,e3,e4,NB,Nat.shiftLeft_eq]
  rfl
theorem JS(m:Nat)(p:Int):rung m p≤9218868437227405312:=by
 unfold rung
 split
 ·omega
 ·exact Nat.min_le_right _ _
theorem kE{m:Nat}(h:m≠0)(k:Nat):(m*2^k).log2=m.log2+k:=by
 have h1:=Nat.log2_self_le h
 have h2:= @Nat.lt_log2_self m
 refine(Nat.log2_eq_iff (by have:=Nat.two_pow_pos k;exact Nat.mul_ne_zero h (by omega))).2 ⟨?_,?_⟩
 ·rw[Nat.pow_add];exact Nat.mul_le_mul_right _ h1
 ·rw[show m.log2+k+1=(m.log2+1)+k by omega,Nat.pow_add];exact Nat.mul_lt_mul_of_pos_right h2 (Nat.two_pow_pos k)
theorem Rn{a b:Nat}(h:a≤b):min a b=a:=Nat.min_eq_left h
theorem fits(L K:Nat)(h:L<2046)(hk:K≤9007199254740992):min (L*4503599627370496+K) 9218868437227405312=L*4503599627370496+K:=by
 have h2:L*4503599627370496+K≤9218868437227405312:=by omega
 exact Rn h2
theorem pz{m:Nat}{p:Int}(h:m≠0){L:Nat}(hL:(L:Int)=p+m.log2-52+1074)(WU:L<2046):
 ∃k,rung m p=L*4503599627370496+k∧4503599627370496≤k∧k≤9007199254740992∧
  (m.log2≤52→k=m*2^(52-m.log2))∧(52≤m.log2→k=mX m (2^(m.log2-52))):=by
 have h1:=Nat.log2_self_le h
 have h2:= @Nat.lt_log2_self m
 unfold rung
 rw[if_neg h]
 have el:max (p+m.log2-52) (-1074)=p+m.log2-52:=by omega
 simp only[el]
 have eL:(p+m.log2-52+1074).toNat=L:=by omega
 rw[eL]
 rcases Nat.le_total m.log2 52 with hm|hm
 ·have e1:(p-(p+m.log2-52)).toNat=52-m.log2:=by omega
  have e2:(p+m.log2-52-p).toNat=0:=by omega
  simp only[e1,e2,Nat.zero_min,Nat.pow_zero,rL]
  have a1:4503599627370496≤m*2^(52-m.log2):=by
   have:2^m.log2*2^(52-m.log2)=4503599627370496:=by rw[←Nat.pow_add,show m.log2+(52-m.log2)=52 by omega]
   have:=Nat.mul_le_mul_right (2^(52-m.log2)) h1
   omega
  have a2:m*2^(52-m.log2)<9007199254740992:=by
   have:2^(m.log2+1)*2^(52-m.log2)=9007199254740992:=by rw[←Nat.pow_add,show m.log2+1+(52-m.log2)=53 by omega]
   have:=Nat.mul_lt_mul_of_pos_right h2 (Nat.two_pow_pos (52-m.log2))
   omega
  refine⟨m*2^(52-m.log2),fits L _ WU (by omega),a1,Nat.le_of_lt a2,fun _=>rfl,fun hh=> ?_⟩
  have:m.log2=52:=by omega
  rw[this]
  simp[rL]
 ·have e1:(p-(p+m.log2-52)).toNat=0:=by omega
  have e2:(p+m.log2-52-p).toNat=m.log2-52:=by omega
  simp only[e1,e2,Nat.pow_zero,Nat.mul_one,show min (m.log2-52) (m.log2+2)=m.log2-52 by omega]
  have hg:=Nat.two_pow_pos (m.log2-52)
  have a1:4503599627370496≤mX m (2^(m.log2-52)):=By hg (by
   have:2^m.log2=4503599627370496*2^(m.log2-52):=by
    rw[show(4503599627370496:Nat)=2^52 from rfl,←Nat.pow_add,show 52+(m.log2-52)=m.log2 by omega]
   omega)
  have a2:mX m (2^(m.log2-52))≤9007199254740992:=Bz hg (by
   have:2^(m.log2+1)=9007199254740992*2^(m.log2-52):=by
    rw[show(9007199254740992:Nat)=2^53 from rfl,←Nat.pow_add,show 53+(m.log2-52)=m.log2+1 by omega]
   omega)
  refine⟨_,fits L _ WU a2,a1,a2,fun hh=> ?_,fun _=>rfl⟩
  have:m.log2=52:=by omega
  rw[this]
  simp[rL]
theorem fz{L k:Nat}(h1:4503599627370496≤k)(h2:k≤9007199254740992):cr (L*4503599627370496+k)=k*2^L:=by
 unfold cr
 rw[if_neg (by omega)]
 rcases Nat.lt_or_ge k 9007199254740992 with h|h
 ·rw[show(L*4503599627370496+k)/4503599627370496-1=L by omega,show 4503599627370496+(L*4503599627370496+k)%4503599627370496=k by omega]
 ·have:k=9007199254740992:=by omega
  subst this
  rw[show(L*4503599627370496+9007199254740992)/4503599627370496-1=L+1 by omega,show 4503599627370496+(L*4503599627370496+9007199254740992)%4503599627370496=4503599627370496 by omega,Nat.pow_succ]
  omega
theorem rN{s:Bool}{r:Nat}(h:r<9218868437227405312):∃m k:Nat,kP.read (pU s r)=.number s m (-1074+(k:Int))∧m*2^k=cr r:=by
 have h':r<9223372036854775808:=by omega
 rcases reads (pU s r)with⟨m,k,e,hw,hlt⟩|⟨e,he⟩|⟨s',x,e,hgt⟩
 ·refine⟨m,k,?_,by rw[vr h']at hw;exact hw⟩
  rw[e]
  congr 1
  have:=xX (s:=s) h'
  cases s
  ·simp only[Bool.false_eq_true,iff_false]at this;simp[this]
  ·simp only[iff_true]at this;simp[this]
 ·rw[vr h']at he;omega
 ·rw[vr h']at hgt;omega
end Go.Aa
namespace Go.Aa
theorem BA{b:Nat}{s:Bool}{m:Nat}{p:Int}(h:kP.read b=.number s m p):m<9007199254740992:=by
 have e1:kP.signWeight=9223372036854775808:=rfl
 have e2:kP.binade=4503599627370496:=rfl
 have e3:kP.infRung=9218868437227405312:=rfl
 unfold Ieee.Format.read at h
 simp only[e1,e2,e3]at h
 split at h
 ·injection h with h1 h2 h3;omega
 ·split at h
  ·injection h with h1 h2 h3;omega
  ·split at h<;>cases h
theorem Hr(n:Int):FloatKind.f64.nearest n=pU (decide (n<0)) (rung n.natAbs 0):=iJ _ _ _
theorem rO{n:Nat}(h:n≠0)(hl:n.log2<1000):rung n 0<9218868437227405312∧rung n 0≠0∧n.log2+1074≤(cr (rung n 0)).log2∧(cr (rung n 0)).log2≤n.log2+1075:=by
 obtain⟨q,e1,e2,e3,_⟩:=pz (p:=0) h (L:=n.log2+1022) (by omega) (by omega)
 rw[e1]
 refine⟨by omega,by omega,?_⟩
 rw[fz e2 e3,kE (by omega)]
 have h1:52≤q.log2:=(Nat.le_log2 (by omega)).2 (by omega)
 have h2:q.log2<54:=(Nat.log2_lt (by omega)).2 (by omega)
 omega
theorem YC(K l n j t:Nat):K*l*(n*j)*t=K*n*(l*j*t):=by ac_rfl
theorem YD(K n u v:Nat):K*n*(u*v)=K*u*n*v:=by ac_rfl
theorem YE(m a b c:Nat):m*a*b*(c*2)=2*(m*c)*(a*b):=by ac_rfl
theorem xY{a b:Nat}(h:a≤b):cr a≤cr b:=by
 rcases Nat.lt_or_ge a b with h1|h1
 ·exact Nat.le_of_lt (jc h1)
 ·rw[show a=b by omega];exact Nat.le_refl _
theorem Aq{L k:Nat}(h1:4503599627370496≤k)(h2:k≤9007199254740992):(k+1)*2^L≤cr (L*4503599627370496+(k+1)):=by
 rcases Nat.lt_or_ge k 9007199254740992 with h|h
 ·rw[fz (by omega) (by omega)];exact Nat.le_refl _
 ·have:k=9007199254740992:=by omega
  subst this
  rw[show L*4503599627370496+(9007199254740992+1)=(L+1)*4503599627370496+4503599627370497 by omega,fz (by omega) (by omega),Nat.pow_succ,Nat.mul_comm (2^L) 2,←Nat.mul_assoc]
  exact Nat.mul_le_mul_right _ (by omega)
theorem Hs{s t:Bool}{r1 r2:Nat}(h1:r1<9218868437227405312)(h2:r2<9218868437227405312)(n1:cr r1≠0)(n2:cr r2≠0)
 (hlo:(cr r2).log2<(cr r1).log2+1000)(hhi:(cr r1).log2<(cr r2).log2+1000):
 ∃R,kP.div (pU s r1) (pU t r2)=some (pU (s^^t) R)∧0<R∧R<9218868437227405312∧
  (∀c,cr c*cr r2≤cr r1*pw 1074→c≤R)∧(∀c,cr r1*pw 1074≤cr c*cr r2→R≤c)∧
  cr R*cr r2*4503599627370496≤cr r1*pw 1074*4503599627370497∧cr r1*pw 1074*4503599627370495≤cr R*cr r2*4503599627370496:=by
 obtain⟨m,i,ea,wa⟩:=rN (s:=s) h1
 obtain⟨n,j,eb,wb⟩:=rN (s:=t) h2
 have lm:=BA ea
 have ln:=BA eb
 have hm:m≠0:=by rintro rfl;rw[Nat.zero_mul]at wa;exact n1 wa.symm
 have hn:n≠0:=by rintro rfl;rw[Nat.zero_mul]at wb;exact n2 wb.symm
 rw[←wa,kE hm]at hlo hhi
 rw[←wb,kE hn]at hlo hhi
 have gm:m.log2≤52:=by have:=(Nat.log2_lt hm (k:=53)).2 lm;omega
 have gn:n.log2≤52:=by have:=(Nat.log2_lt hn (k:=53)).2 ln;omega
 have a1:=Nat.log2_self_le hm
 have a2:= @Nat.lt_log2_self m
 have b1:=Nat.log2_self_le hn
 have b2:= @Nat.lt_log2_self n
 have hd:kP.div (pU s r1) (pU t r2)=some (pU (s^^t) (rung (2*(m*2^(54+n.log2-m.log2)/n)+(m*2^(54+n.log2-m.log2)%n !=0).toNat) ((-1074+(i:Int))-(-1074+(j:Int))-((54+n.log2-m.log2:Nat):Int)-1))):=by
  unfold Ieee.Format.div
  rw[ea,eb]
  simp only[Ieee.Datum.quotient,if_neg hn,Option.map_some,Ieee.Format.write,Nat.shiftLeft_eq,iJ]
  rfl
 generalize WV:54+n.log2-m.log2=more at hd
 have YF:2^(54+n.log2)≤m*2^more:=by
  have:=Nat.mul_le_mul_right (2^more) a1
  rwa [←Nat.pow_add,show m.log2+more=54+n.log2 by omega]at this
 have YG:m*2^more<2^(55+n.log2):=by
  have:=Nat.mul_lt_mul_of_pos_right a2 (Nat.two_pow_pos more)
  rwa [←Nat.pow_add,show m.log2+1+more=55+n.log2 by omega]at this
 generalize YH:m*2^more=D at hd YF YG
 have hq1:9007199254740992≤D/n:=by
  refine(Nat.le_div_iff_mul_le (by omega)).2 ?_
  have:9007199254740992*n≤9007199254740992*2^(n.log2+1):=Nat.mul_le_mul_left _ (Nat.le_of_lt b2)
  have e:9007199254740992*2^(n.log2+1)=2^(54+n.log2):=by
   rw[show(9007199254740992:Nat)=2^53 from rfl,←Nat.pow_add];congr 1;omega
  omega
 have YI:D/n<36028797018963968:=by
  refine(Nat.div_lt_iff_lt_mul (by omega)).2 ?_
  have:36028797018963968*2^n.log2≤36028797018963968*n:=Nat.mul_le_mul_left _ b1
  have e:36028797018963968*2^n.log2=2^(55+n.log2):=by
   rw[show(36028797018963968:Nat)=2^55 from rfl,←Nat.pow_add]
  omega
 have WW:=Nat.div_add_mod D n
 have hrl:=Nat.mod_lt D (show n>0 by omega)
 generalize hq:D/n=q at hd hq1 YI WW
 generalize hr:D%n=rest at hd WW hrl
 obtain⟨sb,hsb,Ro,Vn⟩:∃sb,(rest !=0).toNat=sb∧(rest=0→sb=0)∧(rest≠0→sb=1):=⟨_,rfl,fun h=>by rw[h];rfl,fun h=>by simp[h]⟩
 rw[hsb]at hd
 have YJ:sb≤1:=by rw[←hsb];exact Bool.toNat_le _
 have JT:2*q+sb≠0:=by omega
 have l1:54≤(2*q+sb).log2:=(Nat.le_log2 JT).2 (by omega)
 have l2:(2*q+sb).log2<56:=(Nat.log2_lt JT).2 (by omega)
 generalize Vo:((-1074+(i:Int))-(-1074+(j:Int))-((more:Nat):Int)-1)=place at hd
 obtain⟨L,hL⟩:∃L:Nat,(L:Int)=place+(2*q+sb).log2-52+1074:=⟨(place+(2*q+sb).log2-52+1074).toNat,by omega⟩
 obtain⟨k,e1,e2,e3,_,e5⟩:=pz JT hL (by omega)
 have e5:=e5 (by omega)
 have s1:=Nat.log2_self_le JT
 obtain⟨d,oO⟩:∃d,(2*q+sb).log2-52=d+1:=⟨(2*q+sb).log2-53,by omega⟩
 rw[oO]at e5
 rw[show(2*q+sb).log2=52+(d+1)by omega,Nat.pow_add]at s1
 have hg:0<2^(d+1):=Nat.two_pow_pos _
 have gd:2^(d+1)=2*2^d:=by rw[Nat.pow_succ,Nat.mul_comm]
 have YK:0<2^d:=Nat.two_pow_pos _
 have lower:∀K,K*2^(d+1)*n≤2*D→K≤k:=fun K hK=>by
  rw[e5]
  refine By hg ?_
  have h3:K*2^d*n≤D:=by
   have:K*2^(d+1)*n=2*(K*2^d*n):=by rw[gd,Nat.mul_left_comm K 2,Nat.mul_assoc]
   omega
  have h4:K*2^d≤q:=by rw[←hq];exact(Nat.le_div_iff_mul_le (by omega)).2 h3
  have:K*2^(d+1)=2*(K*2^d):=by rw[gd,Nat.mul_left_comm]
  omega
 have upper:∀K,2*D≤K*2^(d+1)*n→k≤K:=fun K hK=>by
  rw[e5]
  refine Bz hg ?_
  have h3:D≤K*2^d*n:=by
   have:K*2^(d+1)*n=2*(K*2^d*n):=by rw[gd,Nat.mul_left_comm K 2,Nat.mul_assoc]
   omega
  have e:K*2^(d+1)=2*(K*2^d):=by rw[gd,Nat.mul_left_comm]
  generalize K*2^d=M at h3 e
  rw[e]
  have h4:q≤M:=by
   have:=Nat.div_le_div_right (c:=n) h3
   rwa [hq,Nat.mul_div_cancel _ (by omega)]at this
  rcases Nat.lt_or_ge q M with h5|h5
  ·omega
  ·have:q=M:=by omega
   subst this
   have:rest=0:=by
    have:=Nat.mul_comm n q
    omega
   have:=Ro this
   omega
 have x1:∀K,K*2^L*cr r2*2^(more+1)=K*2^(d+1)*n*2^(i+1074):=fun K=>by
  rw[←wb]
  have:L+j+(more+1)=(d+1)+(i+1074):=by omega
  rw[YC,←Nat.pow_add,←Nat.pow_add,this,Nat.pow_add 2 (d+1),YD]
 have x2:cr r1*pw 1074*2^(more+1)=2*D*2^(i+1074):=by
  rw[←wa,←YH,Nat.pow_add 2 i,←Rm 1074,show 2^(more+1)=2^more*2 from Nat.pow_succ 2 more,YE]
 have p1:=Nat.two_pow_pos (more+1)
 have p2:=Nat.two_pow_pos (i+1074)
 have unit:∀K,K*2^L*cr r2≤cr r1*pw 1074↔K*2^(d+1)*n≤2*D:=fun K=>by
  constructor
  ·intro h
   have:=Nat.mul_le_mul_right (2^(more+1)) h
   rw[x1,x2]at this
   exact Nat.le_of_mul_le_mul_right this p2
  ·intro h
   have:=Nat.mul_le_mul_right (2^(i+1074)) h
   rw[←x1,←x2]at this
   exact Nat.le_of_mul_le_mul_right this p1
 have unit':∀K,cr r1*pw 1074≤K*2^L*cr r2↔2*D≤K*2^(d+1)*n:=fun K=>by
  constructor
  ·intro h
   have:=Nat.mul_le_mul_right (2^(more+1)) h
   rw[x1,x2]at this
   exact Nat.le_of_mul_le_mul_right this p2
  ·intro h
   have:=Nat.mul_le_mul_right (2^(i+1074)) h
   rw[←x1,←x2]at this
   exact Nat.le_of_mul_le_mul_right this p1
 have f0:4503599627370496*2^d≤q:=by
  have e:(2:Nat)^52*2^(d+1)=2*(4503599627370496*2^d):=by
   rw[gd,show(2:Nat)^52=4503599627370496 from rfl];omega
  rw[e]at s1
  omega
 have f5:4503599627370496*(2*(2^d*n))≤2*D:=by
  have:=Nat.mul_le_mul_right n f0
  have e:4503599627370496*2^d*n=4503599627370496*(2^d*n):=Nat.mul_assoc _ _ _
  have e2:=Nat.mul_comm n q
  omega
 refine⟨_,hd,?_,?_,?_,?_,?_⟩
 ·rw[e1];omega
 ·rw[e1];omega
 ·intro c hc
  rcases Nat.lt_or_ge (rung (2*q+sb) place) c with h|h
  ·exfalso
   have h3:cr (rung (2*q+sb) place+1)≤cr c:=xY h
   rw[e1,Nat.add_assoc]at h3
   have h4:=Aq (L:=L) e2 e3
   have h5:(k+1)*2^L*cr r2≤cr r1*pw 1074:=Nat.le_trans (Nat.mul_le_mul_right _ (Nat.le_trans h4 h3)) hc
   have:=lower _ ((unit _).1 h5)
   omega
  ·exact h
 ·intro c hc
  rcases Nat.lt_or_ge c (rung (2*q+sb) place)with h|h
  ·exfalso
   have h3:cr c≤cr (L*4503599627370496+k-1):=xY (by omega)
   rcases Nat.lt_or_ge 4503599627370496 k with h4|h4
   ·rw[show L*4503599627370496+k-1=L*4503599627370496+(k-1)by omega,fz (by omega) (by omega)]at h3
    have h5:=Nat.le_trans hc (Nat.mul_le_mul_right (cr r2) h3)
    have:=upper _ ((unit' _).1 h5)
    omega
   ·have hk:k=4503599627370496:=by omega
    subst hk
    have h5:4503599627370496*2^L*cr r2≤cr r1*pw 1074:=(unit _).2 (by rw[gd,Nat.mul_assoc,Nat.mul_assoc];exact f5)
    rw[←fz (L:=L) (Nat.le_refl _) (by omega)]at h5
    have h6:cr c<cr (L*4503599627370496+4503599627370496):=jc (by omega)
    have h7:=Nat.mul_lt_mul_of_pos_right h6 (show 0<cr r2 by omega)
    omega
  ·exact h
 ·rw[e1,fz e2 e3]
  have er:=Ho (n:=2*q+sb) hg
  rw[←e5]at er
  have hN:=Nat.mul_le_mul_right n (show 1≤2^d from YK)
  have g1:k*2^(d+1)*n≤(2*q+sb)*n+2^d*n:=by
   rw[←Nat.add_mul];exact Nat.mul_le_mul_right n (by omega)
  have g2:(2*q+sb)*n≤k*2^(d+1)*n+2^d*n:=by
   rw[←Nat.add_mul];exact Nat.mul_le_mul_right n (by omega)
  have g3:(2*q+sb)*n=2*(n*q)+sb*n:=by rw[Nat.add_mul,Nat.mul_assoc,Nat.mul_comm q n]
  have g4:sb*n≤n∧2*rest≤sb*n+n:=by
   by_cases h0:rest=0
   ·have:=Ro h0;subst this;omega
   ·have:=Vn h0;subst this;omega
  constructor
  ·have:k*2^(d+1)*n*4503599627370496≤2*D*4503599627370497:=by
    rw[g3]at g1
    omega
   have:=Nat.mul_le_mul_right (2^(i+1074)) this
   rw[Nat.mul_right_comm (k*2^(d+1)*n),Nat.mul_right_comm (2*D),←x1,←x2]at this
   refine Nat.le_of_mul_le_mul_right ?_ p1
   rw[Nat.mul_right_comm (k*2^L*cr r2),Nat.mul_right_comm (cr r1*pw 1074)]
   exact this
  ·have:2*D*4503599627370495≤k*2^(d+1)*n*4503599627370496:=by
    rw[g3]at g2
    omega
   have:=Nat.mul_le_mul_right (2^(i+1074)) this
   rw[Nat.mul_right_comm (k*2^(d+1)*n),Nat.mul_right_comm (2*D),←x1,←x2]at this
   refine Nat.le_of_mul_le_mul_right ?_ p1
   rw[Nat.mul_right_comm (k*2^L*cr r2),Nat.mul_right_comm (cr r1*pw 1074)]
   exact this
theorem Ht{d:Ieee.Datum}(h:d.isNaN=false):NN (kP.write d)∧kP.write d<18446744073709551616:=by
 cases d with
 |number s m p=>
  have e:kP.write (.number s m p)=pU s (rung m p):=iJ s m p
  rw[e];exact Hq (JS m p)
 |infinity s=>exact Hq (s:=s) (r:=9218868437227405312) (Nat.le_refl _)
 |nan s x=>cases h
theorem NC{x y z:Nat}(h:kP.div x y=some z):NN z∧z<18446744073709551616:=by
 unfold Ieee.Format.div at h
 cases hq:(kP.read x).quotient (kP.fractionBits+2) (kP.read y)with
 |none=>rw[hq]at h;cases h
 |some d=>
  rw[hq]at h
  simp only[Option.map_some,Option.some.injEq]at h
  subst h
  refine Ht ?_
  revert hq
  cases kP.read x<;>cases kP.read y<;>simp only[Ieee.Datum.quotient]<;>intro hq
  all_goals first
   |(cases hq;done)
   |(injection hq with hq;subst hq;rfl)
   |(split at hq
     ·split at hq
      ·cases hq
      ·injection hq with hq;subst hq;rfl
     ·injection hq with hq;subst hq;rfl)
theorem JU{a b:Int}(ha:a≠0)(hb:b≠0)(la:a.natAbs≤9223372036854775808)(lb:b.natAbs≤9223372036854775808):
 ∃R,kP.div (FloatKind.f64.nearest a) (FloatKind.f64.nearest b)=some (pU (decide (a<0)^^decide (b<0)) R)∧0<R∧R<9218868437227405312:=by
 have na:a.natAbs≠0:=by omega
 have nb:b.natAbs≠0:=by omega
 have ga:a.natAbs.log2<64:=(Nat.log2_lt na).2 (by omega)
 have gb:b.natAbs.log2<64:=(Nat.log2_lt nb).2 (by omega)
 obtain⟨a1,a2,a3,a4⟩:=rO na (by omega)
 obtain⟨b1,b2,b3,b4⟩:=rO nb (by omega)
 have w0:∀r,r≠0→cr r≠0:=fun r hr=>by
  have:=jc (show 0<r by omega)
  omega
 rw[Hr,Hr]
 obtain⟨R,h,h1,h2,_⟩:=Hs (s:=decide (a<0)) (t:=decide (b<0)) a1 b1 (w0 _ a2) (w0 _ b2) (by omega) (by omega)
 exact⟨R,h,h1,h2⟩
theorem xZ{a:Int}(ha:a≠0)(la:a.natAbs≤9223372036854775808):∃(m:Nat)(p:Int),kP.read (FloatKind.f64.nearest a)=.number (decide (a<0)) m p∧m≠0:=by
 have na:a.natAbs≠0:=by omega
 have ga:a.natAbs.log2<64:=(Nat.log2_lt na).2 (by omega)
 obtain⟨a1,a2,_⟩:=rO na (by omega)
 rw[Hr]
 obtain⟨m,k,e,hw⟩:=rN (s:=decide (a<0)) a1
 refine⟨m,_,e,?_⟩
 rintro rfl
 rw[Nat.zero_mul]at hw
 have:=jc (show 0<rung a.natAbs 0 by omega)
 omega
theorem JV{a:Int}(ha:a≠0)(la:a.natAbs≤9223372036854775808):kP.div (FloatKind.f64.nearest a) 0=some (pU (decide (a<0)) 9218868437227405312):=by
 obtain⟨m,p,e,hm⟩:=xZ ha la
 unfold Ieee.Format.div
 rw[e,show kP.read 0=.number false 0 (-1074)from rfl]
 simp only[Ieee.Datum.quotient,if_pos,if_neg hm,Option.map_some,Bool.xor_false]
 rfl
theorem JW{b:Int}(hb:b≠0)(lb:b.natAbs≤9223372036854775808):kP.div 0 (FloatKind.f64.nearest b)=some (pU (decide (b<0)) 0):=by
 obtain⟨m,p,e,hm⟩:=xZ hb lb
 unfold Ieee.Format.div
 rw[e,show kP.read 0=.number false 0 (-1074)from rfl]
 simp only[Ieee.Datum.quotient,if_neg hm,Option.map_some,Bool.false_xor,Nat.shiftLeft_eq,Nat.zero_mul,Nat.zero_div,Nat.zero_mod,Ieee.Format.write,iJ]
 simp[rung]
theorem ND:kP.div 0 0=none:=rfl
end Go.Aa
namespace Go.Aa.T
open Go.Aa Go.Proofs
variable{H:Heap}{b c:Nat}
inductive Fl:AV→Prop
 |nan:Fl .nan
 |bQ(b:Nat)(h:NN b)(hb:b<18446744073709551616):Fl (.bQ b)
def top:Int:=9218868437227405312
def iu(b:Nat):Int:=if cI b=top then 5 else if 0<cI b then 4 else if cI b= -top then 0 else if cI b<0 then 1 else if b/9223372036854775808%2=1 then 2 else 3
def cls:AV→Int
 |.bQ b=>iu b
 |_=>6
def sG(x y:Int):Int:=if x<y then-1 else if y<x then 1 else 0
def rk:AV→Int
 |.bQ b=>cI b
 |_=>0
def cmp(x y:AV):Int:=if cls x≠cls y then sG (cls x) (cls y)else if cls x=1∨cls x=4 then sG (rk x) (rk y)else 0
theorem lP(h:NN b): -top≤cI b∧cI b≤top:=by
 rw[ou]at h
 unfold cI top
 split<;>omega
theorem r0:cI 0=0:=rfl
theorem Rp:cI 9218868437227405311=9218868437227405311:=rfl
theorem JX:NN 0:=rfl
theorem Lp:NN 9218868437227405311:=rfl
theorem Fl.data{x:AV}(h:Fl x):bK x=true:=by cases h<;>rfl
theorem Fl.shut{x:AV}(h:Fl x):bz x=x:=by cases h<;>rfl
theorem vt(h:cI b≠top)(h':cI b≠-top)(hn:NN b):FloatKind.f64.format.sub b b=some 0:=by
 rw[ou]at hn
 unfold cI top at h h'
 unfold Ieee.Format.sub
 rcases reads b with⟨m,k,e,_,_⟩|⟨e,he⟩|⟨s,x,e,hgt⟩
 ·rw[e]
  have hs:∀s:Bool,Ieee.signed s m 0+Ieee.signed (!s) m 0=0:=by
   intro s;cases s<;>simp[Ieee.signed]<;>omega
  simp only[Ieee.Datum.opposite,Ieee.Datum.sum,Int.min_self,Int.sub_self,Int.toNat_zero,hs]
  generalize decide (b/9223372036854775808%2=1)=s
  cases s<;>simp[Ieee.Format.write,Ieee.Format.nearest,Ieee.Format.word]
 ·exfalso
  split at h
  ·rename_i hs;rw[if_pos hs]at h';omega
  ·omega
 ·omega
theorem nQ(h:cI b=top∨cI b= -top)(hn:NN b):FloatKind.f64.format.sub b b=none:=by
 rw[ou]at hn
 unfold cI top at h
 unfold Ieee.Format.sub
 have hm:b%9223372036854775808=9218868437227405312:=by
  rcases h with h|h<;>split at h<;>omega
 rcases reads b with⟨m,k,e,_,hlt⟩|⟨e,he⟩|⟨s,x,e,hgt⟩
 ·omega
 ·rw[e]
  generalize decide (b/9223372036854775808%2=1)=s
  cases s<;>rfl
 ·omega
theorem Dk(h:cI b=0)(hb:b<18446744073709551616):b=0∨b=9223372036854775808:=by
 unfold cI at h
 split at h<;>omega
theorem Vp:FloatKind.f64.format.div 4607182418800017408 0=some 9218868437227405312:=by kernel_rfl
theorem Rq:FloatKind.f64.format.div 4607182418800017408 9223372036854775808=some 18442240474082181120:=by kernel_rfl
theorem Rr:NN 9218868437227405312:=rfl
theorem Rs:NN 18442240474082181120:=rfl
theorem JY:NN 9223372036854775808:=rfl
theorem Vq:cI 9218868437227405312=9218868437227405312:=rfl
theorem Vr:cI 18442240474082181120= -9218868437227405312:=rfl
theorem NF:cI 9223372036854775808=0:=rfl
theorem Hu{x:AV}(hx:Fl x)(h:cls x=1∨cls x=4):∃b,x=.bQ b∧NN b:=by
 cases hx with
 |nan=>simp[cls]at h
 |bQ b h' hb=>exact⟨b,rfl,h'⟩
theorem nR(x:Int):sG x x=0:=by unfold sG;simp
theorem Hv(hb:NN b)(hc:NN c)(h:iu b=iu c)(h1:¬(iu b=1∨iu b=4)):cI b=cI c:=by
 have t1:=lP hb
 have t2:=lP hc
 unfold iu at h h1
 unfold top at*
 (repeat' split at h)<;>(repeat' split at h1)<;>omega
theorem BB(b:Nat):iu b<6:=by unfold iu;(repeat' split)<;>omega
def YL:AV→Bool
 |.nan=>true
 |_=>false
theorem Fl.dat{x:AV}(h:Fl x):qO x:=⟨by cases h<;>exact⟨rfl,rfl⟩⟩
def sH(x:Option Nat):AV:=match x with
 |some z=>.bQ z
 |none=>.nan
theorem JZ{x:Option Nat}(h:∀z,x=some z→NN z∧z<18446744073709551616):Fl (sH x):=by
 cases x with
 |none=>exact .nan
 |some z=>exact .bQ z (h z rfl).1 (h z rfl).2
theorem NG(x y:Nat):cG .quo (.bQ x) (.bQ y)=some (sH (kP.div x y)):=by
 simp only[cG,kW,oN,sH]
 cases kP.div x y<;>rfl
def x6(a b:Int):AV:=sH (kP.div (FloatKind.f64.nearest a) (FloatKind.f64.nearest b))
theorem rP(a b:Int):Fl (x6 a b):=JZ fun z h=>NC h
theorem vu{s:Bool}{r:Nat}(h:r≤9218868437227405312):cls (.bQ (pU s r))=if r=0 then(if s then 2 else 3)else if r=9218868437227405312 then(if s then 0 else 5)else if s then 1 else 4:=by
 simp only[cls,iu]
 rw[Hp (by omega)]
 have hs:=xX (s:=s) (r:=r) (by omega)
 unfold top
 cases s
 ·simp only[Bool.false_eq_true,if_false,iff_false]at hs⊢
  rw[if_neg hs]
  (repeat' split)<;>omega
 ·simp only[if_true,iff_true]at hs⊢
  rw[if_pos hs]
  (repeat' split)<;>omega
theorem J0 {a b : Int} (la : a.natAbs ≤ 9223372036854775808) (lb : b.natAbs ≤ 9223372036854775808) : cls (x6 a b) =
 if b = 0 then (if a = 0 then 6 else if 0 < a then 5 else 0) else if a = 0 then (if b < 0 then 2 else 3) else if (decide (a < 0) ^^ decide (b < 0)) then 1 else 4 := by
 unfold x6
 have z : FloatKind.f64.nearest 0 = 0 := rfl
 by_cases hb : b = 0
 · subst hb
   rw [z]
   by_cases ha : a = 0
   · subst ha
     rw [z, ND]; rfl
   · rw [JV ha la]
     simp only [sH, vu (Nat.le_refl _)]
     by_cases h : a < 0
     · have : ¬ 0 < a := by omega
       simp [ha, h, this]
     · have : 0 < a := by omega
       simp [ha, h, this]
 · by_cases ha : a = 0
   · subst ha
     rw [z, JW hb lb]
     simp only [sH, vu (Nat.zero_le _)]
     simp [hb]
   · obtain ⟨R, h, h1, h2⟩ := JU ha hb la lb
     rw [h]
     simp only [sH, vu (Nat.le_of_lt h2)]
     have : R ≠ 0 := by omega
     have : R ≠ 9218868437227405312 := by omega
     simp [ha, hb, *]
def DT(l:List AV):Prop:=∀x∈l,Fl x
theorem Fl.cell{x:AV}(h:Fl x):cF 1 x=true:=by cases h<;>rfl
theorem Fl.cells{x:AV}(h:Fl x):x.cells=[x]:=by cases h<;>rfl
theorem Fl.bI{x:AV}(h:Fl x):dH [x]=true:=by cases h<;>rfl
theorem Fl.cC{x:AV}(h:Fl x):[x].map cC=[x]:=by cases h<;>rfl
end Go.Aa.T
namespace Go.Aa.T
open Go.Aa Go.Proofs
variable{H:Heap}{b c:Nat}
theorem Dl(hb:NN b)(hc:NN c):(bP (some b) (some c)==some .lt)=decide (cI b<cI c):=by
 rw[qI hb hc,Option.some_beq_some,MW]
theorem Hw(hb:NN b)(hc:NN c):(bP (some b) (some c)==some .gt)=decide (cI c<cI b):=by
 rw[qI hb hc,Option.some_beq_some,MX]
theorem J1(hb:NN b)(hc:NN c):(bP (some b) (some c)==some .eq)=decide (cI b=cI c):=by
 rw[qI hb hc,Option.some_beq_some,cmp_eq]
theorem NH(hb:NN b):(bP (some b) (some b) !=some .eq)=false:=by
 rw[bne,J1 hb hb];simp
theorem x7{x y:Bool}{H:Heap}(h:x=y):aJ (.bool y) (.ret (.bool x),H):=by subst h;rfl
theorem oI:aq cfg 64 [.nan] (.bool true):=by
 refine aq.run (WI _ _) ?_
 exact gG 30 [] trivial (.fin ((.ret (.bool (bP none none !=some Ordering.eq)),{boxes:=[],toks:=[],loops:=[]:Heap})) rfl)
theorem oJ(h:NN b):aq cfg 64 [.bQ b] (.bool false):=by
 refine aq.run (WI _ _) ?_
 have e:=NH h
 exact gG 30 [] trivial (.fin ((.ret (.bool (bP (some b) (some b) !=some Ordering.eq)),{boxes:=[],toks:=[],loops:=[]:Heap})) (by exact x7 e))
theorem BC(h:NN b):aq cfg 133 [.bQ b] (.bool false):=by
 refine aq.run (TY _ _) ?_
 have e:=NH h
 exact gG 30 [] trivial (.fin ((.ret (.bool (bP (some b) (some b) !=some Ordering.eq)),{boxes:=[],toks:=[],loops:=[]:Heap})) (by exact x7 e))
theorem NI(h:NN b):aq cfg 113 [.bQ b,.int .i64 1] (.bool (decide (cI b=top))):=by
 refine aq.run (QG _ _) ?_
 have e:=Hw h Lp
 have t:=lP h
 have e':decide (cI 9218868437227405311<cI b)=decide (cI b=top):=by
  rw[Rp];unfold top at*;exact decide_eq_decide.2 (by omega)
 rw[e']at e
 generalize decide (cI b=top)=d at e⊢
 exact gG 30 [] trivial (.ff<|.ff<|.fin ((.ret (.bool (bP (some b) (some 9218868437227405311)==some Ordering.gt)),{boxes:=[],toks:=[],loops:=[]:Heap})) (by exact x7 e))
theorem NJ(h:NN b):aq cfg 113 [.bQ b,.int .i64 (-1)] (.bool (decide (cI b= -top))):=by
 refine aq.run (QG _ _) ?_
 have e:=Hw (MY h) Lp
 have t:=lP h
 have e':decide (cI 9218868437227405311<cI (Op.negFloat .f64 b))=decide (cI b= -top):=by
  rw[Rp,FH];unfold top at*;exact decide_eq_decide.2 (by omega)
 rw[e']at e
 generalize decide (cI b= -top)=d at e⊢
 exact gG 30 [] trivial (.ff<|.tt<|.fin ((.ret (.bool (bP (some (Op.negFloat FloatKind.f64 b)) (some 9218868437227405311)==some Ordering.gt)),{boxes:=[],toks:=[],loops:=[]:Heap})) (by exact x7 e))
theorem Hy(b:Nat):aq cfg 201 [.bQ b] (.int .u64 b):=.of (H':=Heap.nil) (by rw[nB rfl (g:=A7) rfl];rfl)
theorem Hz(hb:b<18446744073709551616):aq cfg 114 [.bQ b] (.bool (decide (b/9223372036854775808%2=1))):=by
 refine aq.run (TH _ _) ?_
 have h1:=Hy b
 have h2:eX (.int .i64) (.int .u64 (b:Int))=some (.int .i64 (IntKind.i64.wrap (b:Int))):=rfl
 have h3:decide (IntKind.i64.wrap (b:Int)<0)=decide (b/9223372036854775808%2=1):=decide_eq_decide.2 (Cs hb)
 generalize IntKind.i64.wrap (b:Int)=z at h2 h3
 rw[←h3]
 exact gG 30 [] trivial (.aG ([AV.bQ b]) (.int .u64 ↑b) h1<|.conv (show eX (CV.int IntKind.i64) (.int .u64 ↑b)=some (.int .i64 z)from h2)<|.fin ((.ret (.bool (decide (z<(0:Int)))),{boxes:=[],toks:=[],loops:=[]:Heap})) rfl)
theorem Dm(x:Int):aq cfg 132 [.int .i64 x] (.bool false):=by
 refine aq.run (TX _ _) ?_
 exact gG 30 [] trivial (.fin ((.ret (.bool (x !=x)),{boxes:=[],toks:=[],loops:=[]:Heap})) (by exact x7 (by simp)))
theorem Ar(x y:Int):aq cfg 63 [.int .i64 x,.int .i64 y] (.int .i64 (sG x y)):=by
 refine aq.run (Yf _ _) ?_
 have h1:=Dm
 unfold sG
 by_cases a:x<y
 ·rw[if_pos a]
  exact gG 60 [] trivial (.aG ([.int .i64 x]) (.bool false) (show aq cfg 132 [.int .i64 x] (.bool false)from h1 _)<|.aG ([.int .i64 y]) (.bool false) (show aq cfg 132 [.int .i64 y] (.bool false)from h1 _)<|.ff<|.ff<|.yes (dT (x<y) (by exact a))<|.fin ((.ret (.int .i64 (-1:Int)),{boxes:=[],toks:=[],loops:=[]:Heap})) rfl)
 ·rw[if_neg a]
  by_cases b:y<x
  ·rw[if_pos b]
   exact gG 60 [] trivial (.aG ([.int .i64 x]) (.bool false) (show aq cfg 132 [.int .i64 x] (.bool false)from h1 _)<|.aG ([.int .i64 y]) (.bool false) (show aq cfg 132 [.int .i64 y] (.bool false)from h1 _)<|.ff<|.ff<|.no (dF (x<y) (by exact a))<|.yes (dT (y<x) (by exact b))<|.fin ((.ret (.int .i64 1),{boxes:=[],toks:=[],loops:=[]:Heap})) rfl)
  ·rw[if_neg b]
   exact gG 60 [] trivial (.aG ([.int .i64 x]) (.bool false) (show aq cfg 132 [.int .i64 x] (.bool false)from h1 _)<|.aG ([.int .i64 y]) (.bool false) (show aq cfg 132 [.int .i64 y] (.bool false)from h1 _)<|.ff<|.ff<|.no (dF (x<y) (by exact a))<|.no (dF (y<x) (by exact b))<|.fin ((.ret (.int .i64 0),{boxes:=[],toks:=[],loops:=[]:Heap})) rfl)
theorem NL(hb:NN b)(hc:NN c):aq cfg 65 [.bQ b,.bQ c] (.int .i64 (sG (cI b) (cI c))):=by
 refine aq.run (Yg _ _) ?_
 have h1:=BC hb
 have h2:=BC hc
 have e1:=Dl hb hc
 have e2:=Hw hb hc
 unfold sG
 by_cases a:cI b<cI c
 ·rw[if_pos a]
  rw[decide_eq_true a]at e1
  exact gG 60 [] trivial (.aG ([AV.bQ b]) (.bool false) h1<|.aG ([AV.bQ c]) (.bool false) h2<|.ff<|.ff<|.yes (show(bP (some b) (some c)==some Ordering.lt)=true from(by simp[e1]))<|.fin ((.ret (.int .i64 (-1:Int)),{boxes:=[],toks:=[],loops:=[]:Heap})) rfl)
 ·rw[if_neg a]
  rw[decide_eq_false a]at e1
  by_cases d:cI c<cI b
  ·rw[if_pos d]
   rw[decide_eq_true d]at e2
   exact gG 60 [] trivial (.aG ([AV.bQ b]) (.bool false) h1<|.aG ([AV.bQ c]) (.bool false) h2<|.ff<|.ff<|.no (show(bP (some b) (some c)==some Ordering.lt)=false from Bool.eq_false_iff.2 (by simp[e1]))<|.yes (show(bP (some b) (some c)==some Ordering.gt)=true from(by simp[e2]))<|.fin ((.ret (.int .i64 1),{boxes:=[],toks:=[],loops:=[]:Heap})) rfl)
  ·rw[if_neg d]
   rw[decide_eq_false d]at e2
   exact gG 60 [] trivial (.aG ([AV.bQ b]) (.bool false) h1<|.aG ([AV.bQ c]) (.bool false) h2<|.ff<|.ff<|.no (show(bP (some b) (some c)==some Ordering.lt)=false from Bool.eq_false_iff.2 (by simp[e1]))<|.no (show(bP (some b) (some c)==some Ordering.gt)=false from Bool.eq_false_iff.2 (by simp[e2]))<|.fin ((.ret (.int .i64 0),{boxes:=[],toks:=[],loops:=[]:Heap})) rfl)
theorem tY:aq cfg 50 [.nan] (.int .i64 6):=by
 refine aq.run (WH _ _) ?_
 have h:=oI
 exact gG 60 [] trivial (.aG ([AV.nan]) (.bool true) h<|.tt<|.fin ((.ret (.int .i64 6),{boxes:=[],toks:=[],loops:=[]:Heap})) rfl)
theorem oK(h:NN b)(hb:b<18446744073709551616):aq cfg 50 [.bQ b] (.int .i64 (iu b)):=by
 refine aq.run (WH _ _) ?_
 have n:=oJ h
 have i1:=NI h
 have i2:=NJ h
 have s:=Hz hb
 have g:=Hw h JX
 have l:=Dl h JX
 rw[r0]at g l
 unfold iu
 by_cases h1:cI b=top
 ·rw[if_pos h1]
  rw[decide_eq_true h1]at i1
  exact gG 60 [] trivial (.aG ([AV.bQ b]) (.bool false) n<|.ff<|.aG ([AV.bQ b,.int .i64 1]) (.bool true) i1<|.tt<|.fin ((.ret (.int .i64 5),{boxes:=[],toks:=[],loops:=[]:Heap})) rfl)
 ·rw[if_neg h1]
  rw[decide_eq_false h1]at i1
  by_cases h2:0<cI b
  ·rw[if_pos h2]
   rw[decide_eq_true h2]at g
   exact gG 60 [] trivial (.aG ([AV.bQ b]) (.bool false) n<|.ff<|.aG ([AV.bQ b,.int .i64 1]) (.bool false) i1<|.ff<|.yes (show(bP (some b) (some 0)==some Ordering.gt)=true from(by simp[g]))<|.fin ((.ret (.int .i64 4),{boxes:=[],toks:=[],loops:=[]:Heap})) rfl)
  ·rw[if_neg h2]
   rw[decide_eq_false h2]at g
   by_cases h3:cI b= -top
   ·rw[if_pos h3]
    rw[decide_eq_true h3]at i2
    exact gG 60 [] trivial (.aG ([AV.bQ b]) (.bool false) n<|.ff<|.aG ([AV.bQ b,.int .i64 1]) (.bool false) i1<|.ff<|.no (show(bP (some b) (some 0)==some Ordering.gt)=false from Bool.eq_false_iff.2 (by simp[g]))<|.aG ([AV.bQ b,.int .i64 (-1:Int)]) (.bool true) i2<|.tt<|.fin ((.ret (.int .i64 0),{boxes:=[],toks:=[],loops:=[]:Heap})) rfl)
   ·rw[if_neg h3]
    rw[decide_eq_false h3]at i2
    by_cases h4:cI b<0
    ·rw[if_pos h4]
     rw[decide_eq_true h4]at l
     exact gG 60 [] trivial (.aG ([AV.bQ b]) (.bool false) n<|.ff<|.aG ([AV.bQ b,.int .i64 1]) (.bool false) i1<|.ff<|.no (show(bP (some b) (some 0)==some Ordering.gt)=false from Bool.eq_false_iff.2 (by simp[g]))<|.aG ([AV.bQ b,.int .i64 (-1:Int)]) (.bool false) i2<|.ff<|.yes (show(bP (some b) (some 0)==some Ordering.lt)=true from(by simp[l]))<|.fin ((.ret (.int .i64 1),{boxes:=[],toks:=[],loops:=[]:Heap})) rfl)
    ·rw[if_neg h4]
     rw[decide_eq_false h4]at l
     by_cases h5:b/9223372036854775808%2=1
     ·rw[if_pos h5]
      rw[decide_eq_true h5]at s
      exact gG 60 [] trivial (.aG ([AV.bQ b]) (.bool false) n<|.ff<|.aG ([AV.bQ b,.int .i64 1]) (.bool false) i1<|.ff<|.no (show(bP (some b) (some 0)==some Ordering.gt)=false from Bool.eq_false_iff.2 (by simp[g]))<|.aG ([AV.bQ b,.int .i64 (-1:Int)]) (.bool false) i2<|.ff<|.no (show(bP (some b) (some 0)==some Ordering.lt)=false from Bool.eq_false_iff.2 (by simp[l]))<|.aG ([AV.bQ b]) (.bool true) s<|.tt<|.fin ((.ret (.int .i64 2),{boxes:=[],toks:=[],loops:=[]:Heap})) rfl)
     ·rw[if_neg h5]
      rw[decide_eq_false h5]at s
      exact gG 60 [] trivial (.aG ([AV.bQ b]) (.bool false) n<|.ff<|.aG ([AV.bQ b,.int .i64 1]) (.bool false) i1<|.ff<|.no (show(bP (some b) (some 0)==some Ordering.gt)=false from Bool.eq_false_iff.2 (by simp[g]))<|.aG ([AV.bQ b,.int .i64 (-1:Int)]) (.bool false) i2<|.ff<|.no (show(bP (some b) (some 0)==some Ordering.lt)=false from Bool.eq_false_iff.2 (by simp[l]))<|.aG ([AV.bQ b]) (.bool false) s<|.ff<|.fin ((.ret (.int .i64 3),{boxes:=[],toks:=[],loops:=[]:Heap})) rfl)
theorem tZ{x:AV}(hx:Fl x):aq cfg 50 [x] (.int .i64 (cls x)):=by
 cases hx with
 |nan=>exact tY
 |bQ b h hb=>exact oK h hb
theorem As:aq cfg 129 [.nan] (.int .i64 6):=by
 refine aq.run (QH _ _) ?_
 exact gG 60 [] trivial (.tt<|.fin ((.ret (.int .i64 6),{boxes:=[],toks:=[],loops:=[]:Heap})) rfl)
theorem Vs(f:Nat→Nat→Option Nat)(x y:Nat):oN f (some x) (some y)=some (sH (f x y)):=by
 show(match f x y with|some z=>some (AV.bQ z)|none=>some .nan)=some (match f x y with|some z=>AV.bQ z|none=>.nan)
 cases f x y<;>rfl
theorem Lq(x y:Nat):cG .quo (.bQ x) (.bQ y)=some (sH (kP.div x y)):=NG x y
theorem Rt(x y:Nat):cG .sub (.bQ x) (.bQ y)=some (sH (kP.sub x y)):=Vs _ x y
theorem Au(h:NN b)(hb:b<18446744073709551616):aq cfg 129 [.bQ b] (.int .i64 (iu b)):=by
 refine aq.run (QH _ _) ?_
 have n:=NH h
 have ht:=lP h
 have hs:=Rt b b
 by_cases h0:cI b=0
 ·rcases Dk h0 hb with rfl|rfl
  ·rw[show iu 0=3 from rfl]
   have e:=J1 JX JX
   have d:=Lq 4607182418800017408 0
   rw[show kP.div 4607182418800017408 0=some 9218868437227405312 from Vp]at d
   have d:cG .quo (.bQ 4607182418800017408) (.bQ 0)=some (.bQ 9218868437227405312):=d
   have l:=Dl Rr JX
   rw[Vq,r0]at l
   rw[decide_eq_true rfl]at e
   rw[decide_eq_false (by omega)]at l
   exact gG 60 [] trivial (.ff<|.tt<|.bin d<|.ff<|.tt<|.fin ((.ret (.int .i64 3),{boxes:=[],toks:=[],loops:=[]:Heap})) rfl)
  ·rw[show iu 9223372036854775808=2 from rfl]
   have e:=J1 JY JX
   have d:=Lq 4607182418800017408 9223372036854775808
   rw[show kP.div 4607182418800017408 9223372036854775808=some 18442240474082181120 from Rq]at d
   have d:cG .quo (.bQ 4607182418800017408) (.bQ 9223372036854775808)=some (.bQ 18442240474082181120):=d
   have l:=Dl Rs JX
   rw[Vr,r0]at l
   rw[NF,r0,decide_eq_true rfl]at e
   rw[decide_eq_true (by omega)]at l
   exact gG 60 [] trivial (.ff<|.tt<|.bin d<|.tt<|.fin ((.ret (.int .i64 2),{boxes:=[],toks:=[],loops:=[]:Heap})) rfl)
 ·have e:=J1 h JX
  have l:=Dl h JX
  rw[r0]at e l
  rw[decide_eq_false h0]at e
  unfold iu
  by_cases h1:cI b=top
  ·rw[if_pos h1]
   have sn:kP.sub b b=none:=nQ (.inl h1) h
   rw[sn]at hs
   have hs:cG .sub (.bQ b) (.bQ b)=some .nan:=hs
   have t2:¬cI b<0:=by rw[h1];unfold top;omega
   rw[decide_eq_false t2]at l
   exact gG 60 [] trivial (.no (show(bP (some b) (some b) !=some Ordering.eq)=false from Bool.eq_false_iff.2 (by simp[n]))<|.no (show(bP (some b) (some 0)==some Ordering.eq)=false from Bool.eq_false_iff.2 (by simp[e]))<|.ff<|.no (show(bP (some b) (some 0)==some Ordering.eq)=false from Bool.eq_false_iff.2 (by simp[e]))<|.bin hs<|.tt<|.no (show(bP (some b) (some 0)==some Ordering.lt)=false from Bool.eq_false_iff.2 (by simp[l]))<|.bin hs<|.tt<|.fin ((.ret (.int .i64 5),{boxes:=[],toks:=[],loops:=[]:Heap})) rfl)
  ·rw[if_neg h1]
   by_cases h3:cI b= -top
   ·have t4:¬0<cI b:=by rw[h3];unfold top;omega
    rw[if_neg t4,if_pos h3]
    have sn:kP.sub b b=none:=nQ (.inr h3) h
    rw[sn]at hs
    have hs:cG .sub (.bQ b) (.bQ b)=some .nan:=hs
    have t2:cI b<0:=by rw[h3];unfold top;omega
    rw[decide_eq_true t2]at l
    exact gG 60 [] trivial (.no (show(bP (some b) (some b) !=some Ordering.eq)=false from Bool.eq_false_iff.2 (by simp[n]))<|.no (show(bP (some b) (some 0)==some Ordering.eq)=false from Bool.eq_false_iff.2 (by simp[e]))<|.ff<|.no (show(bP (some b) (some 0)==some Ordering.eq)=false from Bool.eq_false_iff.2 (by simp[e]))<|.bin hs<|.tt<|.yes (show(bP (some b) (some 0)==some Ordering.lt)=true from(by simp[l]))<|.fin ((.ret (.int .i64 0),{boxes:=[],toks:=[],loops:=[]:Heap})) rfl)
   ·have sn:kP.sub b b=some 0:=vt h1 h3 h
    rw[sn]at hs
    have hs:cG .sub (.bQ b) (.bQ b)=some (.bQ 0):=hs
    by_cases h4:cI b<0
    ·rw[if_neg (by omega),if_neg h3,if_pos h4]
     rw[decide_eq_true h4]at l
     exact gG 60 [] trivial (.no (show(bP (some b) (some b) !=some Ordering.eq)=false from Bool.eq_false_iff.2 (by simp[n]))<|.no (show(bP (some b) (some 0)==some Ordering.eq)=false from Bool.eq_false_iff.2 (by simp[e]))<|.ff<|.no (show(bP (some b) (some 0)==some Ordering.eq)=false from Bool.eq_false_iff.2 (by simp[e]))<|.bin hs<|.ff<|.ff<|.bin hs<|.ff<|.yes (show(bP (some b) (some 0)==some Ordering.lt)=true from(by simp[l]))<|.fin ((.ret (.int .i64 1),{boxes:=[],toks:=[],loops:=[]:Heap})) rfl)
    ·rw[if_pos (by omega)]
     rw[decide_eq_false h4]at l
     exact gG 60 [] trivial (.no (show(bP (some b) (some b) !=some Ordering.eq)=false from Bool.eq_false_iff.2 (by simp[n]))<|.no (show(bP (some b) (some 0)==some Ordering.eq)=false from Bool.eq_false_iff.2 (by simp[e]))<|.ff<|.no (show(bP (some b) (some 0)==some Ordering.eq)=false from Bool.eq_false_iff.2 (by simp[e]))<|.bin hs<|.ff<|.ff<|.bin hs<|.ff<|.no (show(bP (some b) (some 0)==some Ordering.lt)=false from Bool.eq_false_iff.2 (by simp[l]))<|.fin ((.ret (.int .i64 4),{boxes:=[],toks:=[],loops:=[]:Heap})) rfl)
theorem rQ{x:AV}(hx:Fl x):aq cfg 129 [x] (.int .i64 (cls x)):=by
 cases hx with
 |nan=>exact As
 |bQ b h hb=>exact Au h hb
theorem Dn{x:AV}(hx:Fl x):aq cfg 64 [x] (.bool (YL x)):=by
 cases hx with
 |nan=>exact oI
 |bQ b h hb=>exact oJ h
theorem J2(y:AV)(hy:Fl y)(h:cls .nan=cls y):y=.nan:=by
 cases hy with
 |nan=>rfl
 |bQ b _ _=>have:=BB b;simp only[cls]at h;omega
theorem NM{x y:Int}(h:x≠y):sG x y≠0:=by unfold sG;(repeat' split)<;>omega
theorem pE{x y:AV}(hx:Fl x)(hy:Fl y):aq cfg 24 [x,y] (.int .i64 (cmp x y)):=by
 refine aq.run (XT _ _) ?_
 haveI:=hx.dat
 haveI:=hy.dat
 have c1:=tZ hx
 have c2:=tZ hy
 have c3:=Ar (cls x) (cls y)
 have ny:=Dn hx
 by_cases h:cls x=cls y
 ·have c0:cmp x y=if cls x=1∨cls x=4 then sG (rk x) (rk y)else 0:=by unfold cmp;rw[if_neg (by simpa using h)]
  rw[h,nR]at c3
  cases hx with
  |nan=>
   have:=J2 y hy h
   subst this
   rw[c0,show cls .nan=6 from rfl,if_neg (by omega)]
   have ny:aq cfg 64 [.nan] (.bool true):=oI
   have c1:aq cfg 50 [.nan] (.int .i64 6):=tY
   have c3:=Ar 6 6
   rw[nR]at c3
   exact gG 60 [] trivial (.aG ([AV.nan]) (.int .i64 6) c1<|.aG ([AV.nan]) (.int .i64 6) c1<|.aG ([.int .i64 6,.int .i64 6]) (.int .i64 0) c3<|.ff<|.aG ([AV.nan]) (.bool true) ny<|.tt<|.fin ((.ret (.int .i64 0),{boxes:=[],toks:=[],loops:=[]:Heap})) rfl)
  |bQ b hb hb'=>
   cases hy with
   |nan=>exfalso;have:=BB b;simp only[cls]at h;omega
   |bQ c hc KM=>
    have h':iu b=iu c:=h
    have e:cmp (.bQ b) (.bQ c)=sG (cI b) (cI c):=by
     rw[c0]
     show(if iu b=1∨iu b=4 then sG (cI b) (cI c)else 0)=_
     split
     ·rfl
     ·rename_i hn;rw[Hv hb hc h' hn,nR]
    rw[e]
    have ny:=oJ hb
    have cf:=NL hb hc
    have c1:=oK hb hb'
    have c2:=oK hc KM
    rw[←h']at c2
    have c3:=Ar (iu b) (iu b)
    rw[nR]at c3
    generalize sG (cI b) (cI c)=q at cf⊢
    exact let ag:List AV:=[.int .i64 (iu b),.int .i64 (iu b)];gG 60 [] trivial (.aG ([AV.bQ b]) (.int .i64 (iu b)) c1<|.aG ([AV.bQ c]) (.int .i64 (iu b)) c2<|.aG (ag) (.int .i64 0) c3<|.ff<|.aG ([AV.bQ b]) (.bool false) ny<|.ff<|.aG ([AV.bQ b,AV.bQ c]) (.int .i64 q) cf<|.fin ((.ret (.int .i64 q),{boxes:=[],toks:=[],loops:=[]:Heap})) rfl)
 ·have c0:cmp x y=sG (cls x) (cls y):=by unfold cmp;rw[if_pos h]
  rw[c0]
  have hs:=NM h
  generalize sG (cls x) (cls y)=q at c3 hs⊢
  exact let ag:List AV:=[.int .i64 (cls x),.int .i64 (cls y)];gG 60 [] trivial (.bE ([x]) (.int .i64 (cls x)) c1 cA.p ⟨rfl,rfl⟩<|.bE ([y]) (.int .i64 (cls y)) c2 cA.p ⟨rfl,rfl⟩<|.aG (ag) (.int .i64 q) c3<|.yes (show(q !=(0:Int))=true from(by simpa using hs))<|.tt<|.fin ((.ret (.int .i64 q),{boxes:=[],toks:=[],loops:=[]:Heap})) rfl)
theorem nS{x y:AV}(hx:Fl x)(hy:Fl y):aq cfg 60 [x,y] (.int .i64 (cmp x y)):=by
 refine aq.run (Ye _ _) ?_
 haveI:=hx.dat
 haveI:=hy.dat
 have c1:=rQ hx
 have c2:=rQ hy
 by_cases h1:cls x<cls y
 ·have e:cmp x y= -1:=by unfold cmp;rw[if_pos (by omega)];unfold sG;rw[if_pos h1]
  rw[e]
  exact gG 60 [] trivial (.bE ([x]) (.int .i64 (cls x)) c1 cA.p ⟨rfl,rfl⟩<|.bE ([y]) (.int .i64 (cls y)) c2 cA.p ⟨rfl,rfl⟩<|.yes (dT (cls x<cls y))<|.fin ((.ret (.int .i64 (-1:Int)),{boxes:=[],toks:=[],loops:=[]:Heap})) rfl)
 ·by_cases h2:cls y<cls x
  ·have e:cmp x y=1:=by unfold cmp;rw[if_pos (by omega)];unfold sG;rw[if_neg h1,if_pos h2]
   rw[e]
   exact gG 60 [] trivial (.bE ([x]) (.int .i64 (cls x)) c1 cA.p ⟨rfl,rfl⟩<|.bE ([y]) (.int .i64 (cls y)) c2 cA.p ⟨rfl,rfl⟩<|.no (dF (cls x<cls y))<|.yes (dT (cls y<cls x))<|.fin ((.ret (.int .i64 1),{boxes:=[],toks:=[],loops:=[]:Heap})) rfl)
  ·have h:cls x=cls y:=by omega
   have c0:cmp x y=if cls x=1∨cls x=4 then sG (rk x) (rk y)else 0:=by unfold cmp;rw[if_neg (by simpa using h)]
   by_cases lJ:cls x=1∨cls x=4
   ·rw[c0,if_pos lJ]
    obtain⟨b,rfl,hb⟩:=Hu hx lJ
    obtain⟨c,rfl,hc⟩:=Hu hy (by rw[←h];exact lJ)
    show bA cfg Su _ _ _ (aJ (.int .i64 (sG (cI b) (cI c))))
    have l:=Dl hb hc
    have g:=Hw hb hc
    unfold sG
    generalize cls (.bQ b)=p at c1 lJ h1 h2 h
    generalize cls (.bQ c)=q at c2 h1 h2 h
    by_cases h3:cI b<cI c
    ·rw[if_pos h3]
     rw[decide_eq_true h3]at l
     rcases lJ with lJ|lJ
     ·subst lJ
      exact gG 60 [] trivial (.aG ([AV.bQ b]) (.int .i64 1) c1<|.aG ([AV.bQ c]) (.int .i64 q) c2<|.no (dF ((1:Int)<q))<|.no (dF (q<(1:Int)))<|.ff<|.ff<|.yes (show(bP (some b) (some c)==some Ordering.lt)=true from(by omega))<|.fin ((.ret (.int .i64 (-1:Int)),{boxes:=[],toks:=[],loops:=[]:Heap})) rfl)
     ·subst lJ
      exact gG 60 [] trivial (.aG ([AV.bQ b]) (.int .i64 4) c1<|.aG ([AV.bQ c]) (.int .i64 q) c2<|.no (dF ((4:Int)<q))<|.no (dF (q<(4:Int)))<|.tt<|.ff<|.yes (show(bP (some b) (some c)==some Ordering.lt)=true from(by omega))<|.fin ((.ret (.int .i64 (-1:Int)),{boxes:=[],toks:=[],loops:=[]:Heap})) rfl)
    ·rw[if_neg h3]
     rw[decide_eq_false h3]at l
     by_cases h4:cI c<cI b
     ·rw[if_pos h4]
      rw[decide_eq_true h4]at g
      rcases lJ with lJ|lJ
      ·subst lJ
       exact gG 60 [] trivial (.aG ([AV.bQ b]) (.int .i64 1) c1<|.aG ([AV.bQ c]) (.int .i64 q) c2<|.no (dF ((1:Int)<q))<|.no (dF (q<(1:Int)))<|.ff<|.ff<|.no (show(bP (some b) (some c)==some Ordering.lt)=false from Bool.eq_false_iff.2 (by simp[l]))<|.yes (show(bP (some b) (some c)==some Ordering.gt)=true from(by omega))<|.fin ((.ret (.int .i64 1),{boxes:=[],toks:=[],loops:=[]:Heap})) rfl)
      ·subst lJ
       exact gG 60 [] trivial (.aG ([AV.bQ b]) (.int .i64 4) c1<|.aG ([AV.bQ c]) (.int .i64 q) c2<|.no (dF ((4:Int)<q))<|.no (dF (q<(4:Int)))<|.tt<|.ff<|.no (show(bP (some b) (some c)==some Ordering.lt)=false from Bool.eq_false_iff.2 (by simp[l]))<|.yes (show(bP (some b) (some c)==some Ordering.gt)=true from(by omega))<|.fin ((.ret (.int .i64 1),{boxes:=[],toks:=[],loops:=[]:Heap})) rfl)
     ·rw[if_neg h4]
      rw[decide_eq_false h4]at g
      rcases lJ with lJ|lJ
      ·subst lJ
       exact gG 60 [] trivial (.aG ([AV.bQ b]) (.int .i64 1) c1<|.aG ([AV.bQ c]) (.int .i64 q) c2<|.no (dF ((1:Int)<q))<|.no (dF (q<(1:Int)))<|.ff<|.ff<|.no (show(bP (some b) (some c)==some Ordering.lt)=false from Bool.eq_false_iff.2 (by simp[l]))<|.no (show(bP (some b) (some c)==some Ordering.gt)=false from Bool.eq_false_iff.2 (by simp[g]))<|.fin ((.ret (.int .i64 0),{boxes:=[],toks:=[],loops:=[]:Heap})) rfl)
      ·subst lJ
       exact gG 60 [] trivial (.aG ([AV.bQ b]) (.int .i64 4) c1<|.aG ([AV.bQ c]) (.int .i64 q) c2<|.no (dF ((4:Int)<q))<|.no (dF (q<(4:Int)))<|.tt<|.ff<|.no (show(bP (some b) (some c)==some Ordering.lt)=false from Bool.eq_false_iff.2 (by simp[l]))<|.no (show(bP (some b) (some c)==some Ordering.gt)=false from Bool.eq_false_iff.2 (by simp[g]))<|.fin ((.ret (.int .i64 0),{boxes:=[],toks:=[],loops:=[]:Heap})) rfl)
   ·rw[c0,if_neg lJ]
    generalize cls x=p at c1 lJ h1 h2 h
    generalize cls y=q at c2 h1 h2 h
    subst h
    have e1:¬p=1:=fun e=>lJ (.inl e)
    have e4:¬p=4:=fun e=>lJ (.inr e)
    exact gG 60 [] trivial (.bE ([x]) (.int .i64 p) c1 cA.p ⟨rfl,rfl⟩<|.bE ([y]) (.int .i64 p) c2 cA.p ⟨rfl,rfl⟩<|.no (dF (p<p))<|.no (dF (p<p))<|.yes (show(p !=(1:Int))=true from(by simp[e1]))<|.yes (show(p !=(4:Int))=true from(by simp[e4]))<|.fin ((.ret (.int .i64 0),{boxes:=[],toks:=[],loops:=[]:Heap})) rfl)
theorem NO(a b:Int):aq cfg 49 [.int .i64 a,.int .i64 b] (x6 a b):=by
 refine aq.run (X4 _ _) ?_
 have q:cG .quo (.bQ (FloatKind.f64.nearest a)) (.bQ (FloatKind.f64.nearest b))=some (x6 a b):=NG _ _
 haveI:=(rP a b).dat
 generalize x6 a b=z at*
 exact gG 60 [] trivial (.conv (rfl:eX CV.bQ (.int .i64 a)=some (AV.bQ (FloatKind.f64.nearest a)))<|.conv (rfl:eX CV.bQ (.int .i64 b)=some (AV.bQ (FloatKind.f64.nearest b)))<|.bin q<|.fin ((.ret z,{boxes:=[],toks:=[],loops:=[]:Heap})) rfl)
theorem BD(a b:Int):aq cfg 215 [.int .i64 a,.int .i64 b] (x6 a b):=by
 refine aq.run (UD _ _) ?_
 have q:cG .quo (.bQ (FloatKind.f64.nearest a)) (.bQ (FloatKind.f64.nearest b))=some (x6 a b):=NG _ _
 haveI:=(rP a b).dat
 generalize x6 a b=z at*
 exact gG 60 [] trivial (.conv (rfl:eX CV.bQ (.int .i64 a)=some (AV.bQ (FloatKind.f64.nearest a)))<|.conv (rfl:eX CV.bQ (.int .i64 b)=some (AV.bQ (FloatKind.f64.nearest b)))<|.bin q<|.fin ((.ret z,{boxes:=[],toks:=[],loops:=[]:Heap})) rfl)
theorem Vt:x6 0 0=.nan:=rfl
theorem HA:aq cfg 131 [] .nan:=by
 refine aq.run (TW _ _) ?_
 have h:=BD 0 0
 rw[Vt]at h
 exact gG 60 [] trivial (.aG ([.int .i64 0,.int .i64 0]) (AV.nan) h<|.fin ((.ret AV.nan,{boxes:=[],toks:=[],loops:=[]:Heap})) rfl)
theorem vv:aq cfg 258 [.int .u64 9221120237041090561] .nan:=.of (H':=Heap.nil) (by rw[nB rfl (g:=lX) rfl];rfl)
theorem J3:aq cfg 213 [] .nan:=by
 refine aq.run (UB _ _) ?_
 have h:=vv
 exact gG 60 [] trivial (.aG ([.int .u64 9221120237041090561]) (AV.nan) h<|.fin ((.ret AV.nan,{boxes:=[],toks:=[],loops:=[]:Heap})) rfl)
theorem Av:aq cfg 214 [.sl .sh []] .nan:=by
 refine aq.run (UC _ _) ?_
 have h:=HA
 exact gG 60 [] trivial (.len (show dA false (.sl .sh [])=some (.int .i64 (↑[].length:Int))from gH _ _)<|.tt<|.aG ([]) (AV.nan) h<|.fin ((.ret AV.nan,{boxes:=[],toks:=[],loops:=[]:Heap})) rfl)
end Go.Aa.T
namespace Go.Aa.T
open Go.Aa Go.Proofs
class Lr(x:AV):Prop where
 p:Fl x
instance(x:AV) [h:Lr x]:qO x:=h.p.dat
theorem Fl.Il{x:AV}(h:Fl x):Go.Aa.eW x=x:=by cases h<;>rfl
theorem Fl.d0{x:AV}(h:Fl x):Go.Aa.bI x=true:=by cases h<;>rfl
instance(x y:AV) [hx:Lr x] [hy:Lr y]:qO (.agg [x,y]):=⟨by
 refine⟨?_,?_⟩
 ·show AV.agg [eW x,eW y]=_
  rw[hx.p.Il,hy.p.Il]
 ·show(bI x&&(bI y&&true))=true
  rw[hx.p.d0,hy.p.d0];rfl⟩
theorem Ru{l post:List AV}{x:AV}{i:Nat}{k:SK}{q:IntKind}(h:l.drop i=x::post)(hx:Fl x):cc 1 (.sl k l) (.int q (i:Int))=some (.ref [x]):=by
 have e:=zk (es:=1) (k:=k) (q:=q) (drop_at h) hx.cell
 rwa [hx.cells]at e
theorem BE{l post:List AV}{x:AV}{i:Nat}(h:DT l)(hd:l.drop i=x::post):Fl x:=h x (eo hd)
section
variable{H:Heap}{g:FuncId}{k:Nat}{p:AV→Bool}
theorem Aw(hd:∀y,Fl y→cv cfg (.call (.c (.func g [.ptr k 0])) [.c y]) H (.bool (p y)) H)(l:List AV)(hl:DT l)(hn:l.length<9223372036854775807):∀(post:List AV)(i:Nat)(gU:l.drop i=post)(T:Env)
 (hT:Has T [(0,.sl .sh l),(1,.func g [.ptr k 0]),(7,.int .i64 l.length),(8,.int .i64 i)]),
 bA cfg a127 zD T H (fun r=>r=(.ret (.int .i64 (bF p post i)),H)):=by
 intro post
 induction post with
 |nil=>
  intro i gU T hT
  have hge:=bf gU
  exact gG 60 _ hT (.no (dF ((↑i:Int)<(↑l.length:Int)))<|.fin ((.ret (.int .i64 (-1:Int)),H)) rfl)
 |cons x post ih=>
  intro i gU T hT
  have hlt:=bg gU
  have cq:=aL gU
  have fx:=BE hl gU
  have nI:=hd x fx
  have cn:cc 1 (.sl .sh l) (.int .i64 (i:Int))=some (.ref [x]):=Ru gU fx
  cases hp:p x with
  |true=>
   rw[hp]at nI
   have e:bF p (x::post) i=i:=by simp[bF,hp]
   rw[e]
   exact gG 60 _ hT (.yes (dT ((↑i:Int)<(↑l.length:Int)))<|.idx cn<|.load (rfl:ak false 1 H (.ref [x])=some (x))<|.cw nI<|.tt<|.fin ((.ret (.int .i64 ↑i),H)) rfl)
  |false=>
   rw[hp]at nI
   have e:bF p (x::post) i=bF p post (i+1):=by simp[bF,hp]
   rw[e]
   exact gG 60 _ hT (.yes (dT ((↑i:Int)<(↑l.length:Int)))<|.idx cn<|.load (rfl:ak false 1 H (.ref [x])=some (x))<|.cw nI<|.ff<|.bin (iI i)<|.aT zD [(0,.sl .sh l),(1,.func g [.ptr k 0]),(7,.int .i64 (↑l.length)),(8,.int .i64 (↑(i+1)))] (H) (fun T hT=>(ih (i+1) cq T hT)))
theorem Rv(hd:∀y,Fl y→cv cfg (.call (.c (.func g [.ptr k 0])) [.c y]) H (.bool (p y)) H)(l:List AV)(hl:DT l)(hn:l.length<9223372036854775807):
 lim cfg (.fn 127) [.sl .sh l,.func g [.ptr k 0]] H=some (.ret (.int .i64 (bF p l 0)),H):=by
 rw[TU]
 have h:=Aw hd l hl hn l 0 rfl
 have key:bA cfg a127 [.c Mf] (ay [.sl .sh l,.func g [.ptr k 0]]) H (fun r=>r=(.ret (.int .i64 (bF p l 0)),H)):=by
  exact gG 60 [] trivial (.len (show dA false (.sl .sh l)=some (.int .i64 (↑l.length))from gH _ _)<|.aT zD [(0,.sl .sh l),(1,.func g [.ptr k 0]),(7,.int .i64 (↑l.length)),(8,.int .i64 0)] (H) (fun T hT=>(h T hT)))
 obtain⟨r,h,rfl⟩:=key
 exact h
theorem Ls(hd:∀y,Fl y→cv cfg (.call (.c (.func g [.ptr k 0])) [.c y]) H (.bool (p y)) H)(l:List AV)(hl:DT l)(hn:l.length<9223372036854775807):
 cv cfg (.call (.c (.func 56 [])) [.c (.sl .sh l),.c (.func g [.ptr k 0])]) H (.bool (l.any p)) H:=by
 have h0:=bU (xs:=[.sl .sh l,.func g [.ptr k 0]]) (caps:=[]) (Rv hd l hl hn) rfl rfl
 rw[show bz (.int .i64 (bF p l 0))=.int .i64 (bF p l 0)from rfl,dc]at h0
 have hf:decide (0≤bF p l 0)=l.any p:=gV p l 0
 have key:bA cfg Sq [.c Tp] (ay [.sl .sh l,.func g [.ptr k 0]]) H (fun r=>r=(.ret (.bool (l.any p)),H)):=by
  rw[←hf]
  generalize bF p l 0=c at h0
  exact gG 60 [] trivial (.cw h0<|.fin ((.ret (.bool (decide ((0:Int)≤c))),H)) rfl)
 obtain⟨r,h,rfl⟩:=key
 have h2:lim cfg (.fn 56) ([.sl .sh l,.func g [.ptr k 0]]++[]) H=some (.ret (.bool (l.any p)),H):=by
  rw[Ya];exact h
 have h3:=bU (xs:=[.sl .sh l,.func g [.ptr k 0]]) (caps:=[]) h2 rfl rfl
 rwa [show bz (.bool (l.any p))=.bool (l.any p)from rfl,dc]at h3
end
theorem Fl.C{x:AV}(h:Fl x):Lr x:=⟨h⟩
end Go.Aa.T
namespace Go.Aa.T
open Go.Aa Go.Proofs
theorem Rw{s:St}(h:vq s=0):∀n∈s.nodes,n.name≠[]:=by
 have h1:fB 32 vE Node.name s.nodes=0:=jA h _ (by simp)
 exact fun n hn=>xW ((tX h1).2 n hn)
theorem J4{s:St}(h:vq s=0)(name:List UInt8):dG s name=cU s name:=by
 by_cases hn:name=[]
 ·have hf:cL Node.name s.nodes name=none:=by
   cases hf:cL Node.name s.nodes name with
   |none=>rfl
   |some n=>exact absurd ((by have:=List.find?_some hf;simpa using this:n.name=name).trans hn) (Rw h n (lZ hf))
  unfold dG cU
  rw[hf]
 ·exact tV s hn
end Go.Aa.T
namespace Go.Aa.T
open Go.Aa Go.Proofs
structure Rx(v:List aH):Prop where
 name:∀x∈v,isName x.name=true
 pos:∀x∈v,0<x.n
 C8:gr (fG v)
theorem tT.p{v:List aH}(h:tT v):Rx v:=⟨h.name,h.pos,h.C8⟩
theorem Rx.v{v:List aH}(h:Rx v)(hl:v.length≤8):tT v:=⟨hl,h.name,h.pos,h.C8⟩
theorem HB{l m:List (List UInt8)}(hl:gr l)(hm:gr m)(h:∀x∈l,x∈m):l.length≤m.length:=by
 have e:l=m.filter fun x=>decide (x∈l):=nN hl (hm.filter _) fun x=>by
  simp only[List.mem_filter,decide_eq_true_eq]
  exact⟨fun hx=>⟨h x hx,hx⟩,fun hx=>hx.2⟩
 rw[e];exact List.length_filter_le _ _
theorem Dp{l m:List (List UInt8)}(h:∀x∈l,x∈m):(cy l).length≤(cy m).length:=
 HB (iG l) (iG m) fun x hx=>fS.2 (h x (fS.1 hx))
theorem vw{v:List aH}(h:Rx v){s:List UInt8}:s∈fG v↔0<bT v s:=by
 constructor
 ·intro hs
  obtain⟨x,hx,-,e⟩:=tU hs
  rw[e];exact h.pos x hx
 ·intro hs
  by_cases hm:s∈fG v
  ·exact hm
  ·rw[jU hm]at hs;omega
theorem rR{v:List aH}(h:Rx v)(s:List UInt8):0≤bT v s:=by
 by_cases hm:s∈fG v
 ·have:=(vw h).1 hm;omega
 ·rw[jU hm];omega
def Ry(g:DR)(l:List (List UInt8)):List aH:=(l.filter fun s=>decide (0<(g s).1)).map fun s=>⟨s,(g s).1⟩
theorem x8{g:DR}:∀{l:List (List UInt8)}(acc:List aH),(∀s∈l,(g s).2=0)→fM g l acc=(acc++Ry g l,0)
 |[],acc,_=>by simp[fM,Ry]
 |s::l,acc,h=>by
  unfold fM
  rw[if_pos (h s (by simp)),x8 _ fun t ht=>h t (by simp[ht])]
  by_cases hp:0<(g s).1<;>simp[Ry,hp]
theorem rS{g:DR}:∀{l:List (List UInt8)}{acc:List aH},(fM g l acc).2=0→∀s∈l,(g s).2=0
 |[],acc,_,s,hs=>by cases hs
 |t::l,acc,h,s,hs=>by
  unfold fM at h
  split at h
  ·rename_i h0
   rcases List.mem_cons.1 hs with rfl|hs
   ·exact h0
   ·exact rS h s hs
  ·rename_i h0;exact absurd h h0
theorem J5(g:DR)(l:List (List UInt8)):fG (Ry g l)=l.filter fun s=>decide (0<(g s).1):=by
 simp only[fG,Ry,List.map_map]
 conv=>rhs;rw[←List.map_id (l.filter _)]
 rfl
theorem HC{g:DR}{a b:List aH}(oa:tT a)(ob:tT b):gX g [a,b]=iH (fM g (cy (fG a++fG b)) []):=by
 have e:allNames [a,b]=fG a++fG b:=by simp[allNames]
 unfold gX
 rw[if_pos (by simp[bq,GS oa,GS ob]),e]
theorem BF{a b:Int}(ha:0≤a)(hb:0≤b):eN a b=gi (a+b):=by
 unfold eN gx;rw[if_neg (show¬a<0 by omega),if_neg (show¬b<0 by omega),if_neg (by simp)]
theorem J6{n:Int}(h:n≤9223372036854775807):gi n=(n,0):=by unfold gi;rw[if_neg (by omega)]
theorem Dq{n:Int}(h:(gi n).2=0):n≤9223372036854775807:=by
 unfold gi at h;split at h
 ·cases h
 ·omega
theorem J7{a b:List aH}(oa:tT a)(ob:tT b)(hs:∀s,bT a s+bT b s≤9223372036854775807):
 (cy (fG a++fG b)).filter (fun s=>decide (0<(eN (bT a s) (bT b s)).1))=cy (fG a++fG b):=by
 refine List.filter_eq_self.2 fun s hx=> ?_
 have pa:=rR oa.p s
 have pb:=rR ob.p s
 rw[BF pa pb,J6 (hs s)]
 have:0<bT a s+bT b s:=by
  rcases List.mem_append.1 (fS.1 hx)with h|h
  ·have:=(vw oa.p).1 h;omega
  ·have:=(vw ob.p).1 h;omega
 simpa using this
theorem add_zero{a b:List aH}(oa:tT a)(ob:tT b)(h:(gu a b).2=0):(∀s,bT a s+bT b s≤9223372036854775807)∧(cy (fG a++fG b)).length≤8:=by
 have pa:=rR oa.p
 have pb:=rR ob.p
 unfold gu at h
 rw[HC oa ob]at h
 have h0:(fM (fun s=>eN (bT a s) (bT b s)) (cy (fG a++fG b)) []).2=0:=by
  unfold iH at h;split at h
  ·rename_i h0;exact h0
  ·exact h
 have h1:=rS h0
 have hs:∀s,bT a s+bT b s≤9223372036854775807:=fun s=>by
  by_cases hm:s∈fG a++fG b
  ·have:=h1 s (fS.2 hm)
   simp only[BF (pa s) (pb s)]at this
   exact Dq this
  ·rw[jU fun h=>hm (List.mem_append.2 (.inl h)),jU fun h=>hm (List.mem_append.2 (.inr h))];omega
 refine⟨hs,?_⟩
 rw[x8 _ h1,List.nil_append]at h
 have e2:=J5 (fun s=>eN (bT a s) (bT b s)) (cy (fG a++fG b))
 rw[J7 oa ob hs]at e2
 rw[←e2,List.length_map]
 unfold iH at h
 rw[if_pos rfl]at h
 split at h
 ·cases h
 ·rename_i h3;exact Nat.le_of_not_lt h3
def Dr:List (List aH)→List UInt8→Int
 |[],_=>0
 |v::vs,s=>bT v s+Dr vs s
theorem J8{vs:List (List aH)}(h:∀v∈vs,tT v)(s:List UInt8):0≤Dr vs s:=by
 induction vs with
 |nil=>simp[Dr]
 |cons v vs ih=>
  have:=rR (h v (by simp)).p s
  have:=ih fun w hw=>h w (by simp[hw])
  simp only[Dr];omega
structure Lt(acc:List aH)(vs:List (List aH)):Prop where
 le:∀s,bT acc s+Dr vs s≤9223372036854775807
 rW:(cy (fG acc++allNames vs)).length≤8
theorem Lt.head{acc v:List aH}{vs:List (List aH)}(h:Lt acc (v::vs))(hv:∀v∈vs,tT v):(∀s,bT acc s+bT v s≤9223372036854775807)∧(cy (fG acc++fG v)).length≤8:=by
 refine⟨fun s=> ?_,?_⟩
 ·have:=h.le s
  have:=J8 hv s
  simp only[Dr]at*;omega
 ·refine Nat.le_trans (Dp fun x hx=> ?_) h.rW
  rw[jH]
  simp only[List.mem_append]at hx⊢
  rcases hx with h|h
  ·exact .inl h
  ·exact .inr (.inl h)
end Go.Aa.T
namespace Go.Aa.T
open Go.Aa Go.Proofs
theorem NP{x:AV}{nb nt:Nat}(h:bI x=true):rZ nb nt x=true:=lY h
def NQ(B:List (List AV)):Prop:=∀nb,B.length≤nb→B.all (·.all (rZ nb 0))=true
theorem HD{B:List (List AV)}{k:Nat}{cs:List AV}(h:NQ B)(hc:cs.all bI=true):NQ (B.set k cs):=fun nb hn=>by
 refine List.all_eq_true.2 fun b hb=> ?_
 rcases List.mem_or_eq_of_mem_set hb with hb|rfl
 ·exact List.all_eq_true.1 (h nb (by simpa using hn)) b hb
 ·exact List.all_eq_true.2 fun x hx=>NP (List.all_eq_true.1 hc x hx)
abbrev NR(l:List cT):List AV:=cW (l.map af)
theorem HE(l:List cT):(NR l).all bI=true:=by
 refine List.all_eq_true.2 fun x hx=> ?_
 simp only[NR,cW,List.mem_flatMap,List.mem_map]at hx
 obtain⟨a,⟨p,-,rfl⟩,hx⟩:=hx
 simp only[af,AV.cells,List.mem_cons,List.not_mem_nil,or_false]at hx
 rcases hx with rfl|rfl|rfl|rfl|rfl|rfl|rfl|rfl|rfl|rfl|rfl<;>rfl
end Go.Aa.T
namespace Go.Aa.T
open Go.Aa Go.Proofs
def Rz(nm:List UInt8)(l:List cT):List cT:=l.filter fun p=> !(p.name==nm)
section
variable(B0:List (List AV))(kk jj n:Nat)(nm:List UInt8)
structure DH(C:List cT)(B:List (List AV)):Prop where
 row:B[kk]?=some (NR C)
 YM:B[jj]?=some [.str nm]
 Vu:NQ B
 RA:∃ex,B=B0.set kk (NR C)++ex
variable{B0 kk jj n nm}
theorem DH.put{C:List cT}{B:List (List AV)}(h:DH B0 kk jj nm C B)(hkj:kk≠jj)(hk:kk<B0.length)(C':List cT):DH B0 kk jj nm C' (B.set kk (NR C')):=by
 obtain⟨ex,e⟩:=h.RA
 have h1:=(List.getElem?_eq_some_iff.1 h.row).1
 refine⟨List.getElem?_set_self h1,by rw[List.getElem?_set_ne hkj];exact h.YM,HD h.Vu (HE C'),ex,?_⟩
 rw[e,List.set_append_left _ _ (by simpa using hk),List.set_set]
end
end Go.Aa.T
namespace Go.Aa.T
open Go.Aa Go.Proofs
end Go.Aa.T
namespace Go.Aa.T
open Go.Aa Go.Proofs
theorem qV{xs:List AV}{g:FuncId}{v0 v:AV}{H H0 H2:Heap}(h0:lim cfg (.fn g) xs Heap.nil=some (.ret v0,H0))(hn:bK (bz v0)=false)(h:lim cfg (.fn g) xs H=some (.ret v,H2))(hx:xs.map bz=xs)(hd:xs.all bK=true):
 cv cfg (.c6 (.c (.func g [])) (xs.map .c)) H (bz v) (de H.boxes.length H.toks.length (bz v) H2):=fun T=>by
 have e:(xs.map dX.c).map (fun x=>bz (ev T x))=xs:=by rw[List.map_map];exact hx
 simp only[aR,e]
 rw[show ev T (.c (.func g []))=.func g []from rfl]
 simp only[gv,hd,List.all_nil,Bool.and_self,if_true,List.append_nil,h0,hn,Bool.false_eq_true,if_false,eD,h]
inductive PR(kk:Nat)(n:Nat)(l:List cT):AV→List (List AV)→Prop
 |some(Z:List AV)(hZ:Z.all bI=true)(hn:0<n)(hl:(NR l++Z).length=n*11):PR kk n l (.cY kk 0 l.length 11) [NR l++Z]
 |none(h0:n=0)(hl:l=[]):PR kk n l (.sl .nil []) []
theorem BG(s:St):(aB s).cells.all bI=true:=rfl
def x9(s:St)(nm:List UInt8):St:={s with aj:=Rz nm s.aj}
end Go.Aa.T
namespace Go.Aa.T
open Go.Aa Go.Proofs
def before(nm:List UInt8)(p:cT):Bool:=Op.bytesLess p.name nm
end Go.Aa.T
namespace Go.Aa.T
open Go.Aa Go.Proofs
def Vv(l:List cT):Prop:=l.Pairwise fun a b=>Op.bytesLess a.name b.name=true
end Go.Aa.T
namespace Go.Aa.T
open Go.Aa Go.Proofs
end Go.Aa.T
namespace Go.Aa.T
open Go.Aa Go.Proofs
end Go.Aa.T
namespace Go.Aa.T
open Go.Aa Go.Proofs
end Go.Aa.T
namespace Go.Aa.T
open Go.Aa Go.Proofs
end Go.Aa.T
namespace Go.Aa.T
open Go.Aa Go.Proofs
structure WX(s:St):Prop where
 cap:∀n∈s.nodes,tT n.cap
 need:∀p∈s.aj,tT p.need
 name:∀n∈s.nodes,n.name≠[]
 find:∀n∈s.nodes,cL Node.name s.nodes n.name=some n
 aj:Vv s.aj
 room:∀n∈s.nodes,(cU s n.name).2=0∧nK (cU s n.name).1 n.cap=true
 total:(iq s).2=0
def YN(s:St)(nd:List UInt8):List (List aH):=(xP s nd).map (·.need)
theorem WX.nd{s:St}(g:WX s)(nd:List UInt8):∀v∈YN s nd,tT v:=fun v hv=>by
 obtain⟨p,hp,rfl⟩:=List.mem_map.1 hv
 exact g.need p (List.mem_filter.1 hp).1
end Go.Aa.T
namespace Go.Aa.T
open Go.Aa Go.Proofs
def ya(s:St)(nm what:List UInt8):AV:=match cL Node.name s.nodes nm with
 |none=>.nan
 |some n=>x6 (bT (cU s nm).1 what) (bT n.cap what)
theorem Ax(s:St)(nm what:List UInt8):Fl (ya s nm what):=by
 unfold ya
 split
 ·exact .nan
 ·exact rP _ _
theorem kF{s:St}{nm:List UInt8}{n:Node}(h:cL Node.name s.nodes nm=some n):n∈s.nodes:=List.mem_of_find?_eq_some h
theorem NS(s:St)(hs:jm s)(nm what:List UInt8):aq cfg 126 [aB s,.str nm,.str what] (ya s nm what):=by
 refine aq.run (TT _ _) ?_
 have h1:=iS s.nodes nm hs.nodes
 cases hf:cL Node.name s.nodes nm with
 |none=>
  rw[hf]at h1
  have e:ya s nm what=.nan:=by unfold ya;rw[hf]
  rw[e]
  have h2:=J3
  exact let ag:List AV:=[.str [],.sl .sh [],.sl .sh [],.sl .sh [],.bool false];let ax:List AV:=[.sl .sh (s.nodes.map aA),.str nm];gG 60 [] trivial (.aG (ax) (.tuple [.agg ag,.bool false]) h1<|.tt<|.aG ([]) (AV.nan) h2<|.fin ((.ret AV.nan,{boxes:=[[.sl .sh (s.nodes.map aA),.sl .sh (s.aj.map af),.sl .sh (s.aY.map aP)],ag],toks:=[],loops:=[]:Heap})) rfl)
 |some n=>
  rw[hf]at h1
  have e:ya s nm what=x6 (bT (cU s nm).1 what) (bT n.cap what):=by unfold ya;rw[hf]
  rw[e]
  obtain⟨c,h2⟩:=G8 s nm hs
  have hin:=xT s nm
  have hx:=hs.cap n (kF hf)
  have h3:=nJ (cU s nm).1 what (by omega)
  have h4:=nJ n.cap what hx.len
  have h5:=NO (bT (cU s nm).1 what) (bT n.cap what)
  haveI:=(rP (bT (cU s nm).1 what) (bT n.cap what)).C
  generalize x6 (bT (cU s nm).1 what) (bT n.cap what)=u at*
  generalize bT (cU s nm).1 what=a at*
  generalize cU s nm=z at*
  obtain⟨w,er⟩:=z
  exact let ag:List AV:=[.str n.name,.sl .sh (n.cap.map ai),.sl .sh (n.labels.map aI),.sl .sh (n.aV.map bu),.bool n.br];let ax:List AV:=[.sl .sh (s.nodes.map aA),.sl .sh (s.aj.map af),.sl .sh (s.aY.map aP)];let aS:List AV:=[.sl .sh (List.map ai (w,er).fst),.str what];let bt:List AV:=[.sl .sh (s.nodes.map aA),.str nm];let bR:List AV:=[.sl .sh (n.cap.map ai),.str what];let dm:List AV:=[.int .i64 a,.int .i64 (bT n.cap what)];gG 90 [] trivial (.aG (bt) (.tuple [.agg ag,.bool true]) h1<|.ff<|.bE ([.agg ax,.str nm]) (.tuple [.sl .sh (List.map ai (w,er).fst),.int .i64 (w,er).snd]) h2 ⟨rfl,rfl⟩ fe.p<|.aG (aS) (.int .i64 a) h3<|.aG (bR) (.int .i64 (bT n.cap what)) h4<|.bE (dm) (u) h5 ⟨rfl,rfl⟩ fe.p<|.fin ((.ret u,{boxes:=[ax,ag],toks:=[],loops:=[]:Heap})) rfl)
theorem NT(s:St)(hs:jm s)(hu:∀n,dG s n=cU s n)(nm what:List UInt8):aq cfg 128 [aB s,.str nm,.str what] (ya s nm what):=by
 refine aq.run (TV _ _) ?_
 have h1:=iT s.nodes nm hs.nodes
 cases hf:cL Node.name s.nodes nm with
 |none=>
  rw[hf]at h1
  have e:ya s nm what=.nan:=by unfold ya;rw[hf]
  rw[e]
  have h2:=Av
  exact let ag:List AV:=[.str [],.sl .sh [],.sl .sh [],.sl .sh [],.bool false];let ax:List AV:=[.sl .sh (s.nodes.map aA),.str nm];gG 60 [] trivial (.aG (ax) (.tuple [.agg ag,.bool false]) h1<|.tt<|.aG ([.sl .full []]) (AV.nan) h2<|.fin ((.ret AV.nan,{boxes:=[[.sl .sh (s.nodes.map aA),.sl .sh (s.aj.map af),.sl .sh (s.aY.map aP)],ag],toks:=[],loops:=[]:Heap})) rfl)
 |some n=>
  rw[hf]at h1
  have e:ya s nm what=x6 (bT (cU s nm).1 what) (bT n.cap what):=by unfold ya;rw[hf]
  rw[e]
  obtain⟨c,h2⟩:=xS s nm hs
  rw[hu]at h2
  have hin:=xT s nm
  have hx:=hs.cap n (kF hf)
  have h3:=lI (cU s nm).1 what (by omega)
  have h4:=lI n.cap what hx.len
  have h5:=BD (bT (cU s nm).1 what) (bT n.cap what)
  haveI:=(rP (bT (cU s nm).1 what) (bT n.cap what)).C
  generalize x6 (bT (cU s nm).1 what) (bT n.cap what)=u at*
  generalize bT (cU s nm).1 what=a at*
  generalize cU s nm=z at*
  obtain⟨w,er⟩:=z
  exact let ag:List AV:=[.str n.name,.sl .sh (n.cap.map ai),.sl .sh (n.labels.map aI),.sl .sh (n.aV.map bu),.bool n.br];let ax:List AV:=[.sl .sh (s.nodes.map aA),.sl .sh (s.aj.map af),.sl .sh (s.aY.map aP)];let aS:List AV:=[.sl .sh (List.map ai (w,er).fst),.str what];let bt:List AV:=[.sl .sh (s.nodes.map aA),.str nm];let bR:List AV:=[.sl .sh (n.cap.map ai),.str what];let dm:List AV:=[.int .i64 a,.int .i64 (bT n.cap what)];gG 90 [] trivial (.aG (bt) (.tuple [.agg ag,.bool true]) h1<|.ff<|.bE ([.agg ax,.str nm]) (.tuple [.sl .sh (List.map ai (w,er).fst),.int .i64 (w,er).snd]) h2 ⟨rfl,rfl⟩ fe.p<|.aG (aS) (.int .i64 a) h3<|.aG (bR) (.int .i64 (bT n.cap what)) h4<|.bE (dm) (u) h5 ⟨rfl,rfl⟩ fe.p<|.fin ((.ret u,{boxes:=[ax,ag],toks:=[],loops:=[]:Heap})) rfl)
def yb(s:St)(nm:List UInt8)(l:List aH):List AV:=l.map fun x=>ya s nm x.name
def yc(s:St)(nm:List UInt8):List AV:=match cL Node.name s.nodes nm with
 |none=>[]
 |some n=>yb s nm n.cap
theorem NU(s:St)(nm:List UInt8)(l:List aH):DT (yb s nm l):=fun x hx=>by
 obtain⟨y,-,rfl⟩:=List.mem_map.1 hx
 exact Ax _ _ _
theorem HF(s:St)(nm:List UInt8):DT (yc s nm):=by
 unfold yc
 split
 ·intro x hx;cases hx
 ·exact NU _ _ _
theorem BH{s:St}(hs:jm s)(nm:List UInt8):(yc s nm).length<9223372036854775807:=by
 unfold yc
 split
 ·simp
 ·rename_i n h
  simp only[yb,List.length_map]
  exact(hs.cap n (kF h)).len
theorem RB{x:AV}(h:Fl x)(H:Heap):cv cfg (.bO 1 [.c x]) H (.sl .full [x]) H:=fun T=>by
 cases h<;>rfl
theorem RC{acc:List AV}{x:AV}(hl:DT acc)(hx:Fl x)(hn:acc.length≤100000)(bs:List (List AV))(ls:List jk):
 bw 1 8 ⟨bs,bY id acc,ls⟩ (cB id acc) (.sl .full [x])=some (cB id (acc++[x]),⟨bs,bY id (acc++[x]),ls⟩):=
 gp id (x:=x) (by simp only[List.map_id];omega) (by rw[List.map_id];exact List.all_eq_true.2 fun y hy=>(hl y hy).cell) hx.cell hx.bI
theorem yd{acc:List AV}{x:AV}(hl:DT acc)(hx:Fl x):DT (acc++[x]):=fun y hy=>by
 rcases List.mem_append.1 hy with h|h
 ·exact hl y h
 ·rw[List.mem_singleton.1 h];exact hx
theorem yf(s:St)(hs:jm s)(nm:List UInt8)(n:Node)(hn:n.cap.length≤1000):∀(post:List aH)(i:Nat)(hd:n.cap.drop i=post)(acc:List AV)(ha:acc.length≤i)(hl:DT acc)(ex:List (List AV))(T:Env)
 (hT:Has T [(1,.str nm),(2,.ptr 0 0),(7,cB id acc),(18,.sl .sh (n.cap.map ai)),(19,.int .i64 n.cap.length),(20,.int .i64 i)]),
 bA cfg Sp Be T ⟨(aB s).cells::(aA n).cells::ex,bY id acc,[]⟩ (aJ (cB id (acc++yb s nm post))):=by
 intro post
 induction post with
 |nil=>
  intro i hd acc ha hl ex T hT
  have hge:=bf hd
  rw[show acc++yb s nm []=acc by simp[yb]]
  exact gG 60 _ hT (.no (dF ((↑i:Int)<(↑n.cap.length:Int)))<|.fin ((.ret (.sl (dS acc) (acc.map id)),{boxes:=[.sl .sh (s.nodes.map aA),.sl .sh (s.aj.map af),.sl .sh (s.aY.map aP)]::[.str n.name,.sl .sh (n.cap.map ai),.sl .sh (n.labels.map aI),.sl .sh (n.aV.map bu),.bool n.br]::ex,toks:=bY id acc,loops:=[]:Heap})) rfl)
 |cons x post ih=>
  intro i hd acc ha hl ex T hT
  have hlt:=bg hd
  have cq:=aL hd
  have hf:=NS s hs nm x.name
  have fl:=Ax s nm x.name
  have e:acc++yb s nm (x::post)=(acc++[ya s nm x.name])++yb s nm post:=by simp[yb]
  rw[e]
  generalize ya s nm x.name=u at hf fl⊢
  haveI:=fl.C
  have cQ:=ih (i+1) cq (acc++[u]) (by simp;omega) (yd hl fl) (ex++[(ai x).cells])
  have bs:=RB fl
  have ap:=RC hl fl (by omega)
  exact let ax:List AV:=[.sl .sh (s.nodes.map aA),.sl .sh (s.aj.map af),.sl .sh (s.aY.map aP)];let aS:List AV:=[.str n.name,.sl .sh (n.cap.map ai),.sl .sh (n.labels.map aI),.sl .sh (n.aV.map bu),.bool n.br];let ag:Heap:={boxes:=ax::aS::(ex++[[AV.str x.name,.int .i64 x.n]]),toks:=bY id acc,loops:=[]:Heap};let bt:Heap:={boxes:=ax::aS::(ex++[[AV.str x.name,.int .i64 x.n]]),toks:=bY id (acc++[u]),loops:=[]:Heap};gG 120 _ hT (.yes (dT ((↑i:Int)<(↑n.cap.length:Int)))<|.idx (iR 2 ai hd)<|.load (rfl:ak true 2 {boxes:=ax::aS::ex,toks:=bY id acc,loops:=[]:Heap} (.ref [.str x.name,.int .i64 x.n])=some (.agg [.str x.name,.int .i64 x.n]))<|.store (show aW 2 {boxes:=ax::aS::(ex++[[AV.str [],.int .i64 0]]),toks:=bY id acc,loops:=[]:Heap} (.ptr (ax::aS::ex).length 0) (.agg [.str x.name,.int .i64 x.n])=some (ag)from aC (cs:=[.str [],.int .i64 0]) (cs':=[.str x.name,.int .i64 x.n]) (by simp+zetaDelta) rfl (by simp+zetaDelta [List.set_append]))<|.load (lB true 3 ag 0 0 (.agg ax) ax)<|.load (show ak false 1 ag (.ptr (ax::aS::ex).length 0)=some (.str x.name)from ah (cs:=[.str x.name,.int .i64 x.n]) (by simp+zetaDelta) rfl)<|.bE ([.agg ax,.str nm,.str x.name]) (u) hf ⟨rfl,rfl⟩ fe.p<|.cw (show cv cfg (.bO 1 [.c u]) ag (.sl .full [u]) ag from bs _)<|.append (show bw 1 8 ag (.sl (dS acc) (acc.map id)) (.sl .full [u])=some ((cB id (acc++[u]),bt))from ap _ _)<|.bin (iI i)<|.aT Be [(1,.str nm),(2,.ptr 0 0),(7,.sl (dS (acc++[u])) (List.map id (acc++[u]))),(18,.sl .sh (n.cap.map ai)),(19,.int .i64 (↑n.cap.length)),(20,.int .i64 (↑(i+1)))] (bt) (fun T hT=>(cQ T hT)))
theorem J9(s:St)(hs:jm s)(hc:∀n∈s.nodes,n.cap.length≤1000)(nm:List UInt8):aq cfg 55 [aB s,.str nm] (cB id (yc s nm)):=by
 refine aq.run (X9 _ _) ?_
 have h1:=iS s.nodes nm hs.nodes
 have e0:cB id ([]:List AV)=.sl .full []:=rfl
 cases hf:cL Node.name s.nodes nm with
 |none=>
  rw[hf]at h1
  have e:yc s nm=[]:=by unfold yc;rw[hf]
  rw[e]
  have h:=yf s hs nm ez (by simp[ez]) [] 0 rfl [] (by simp) (fun x hx=>by cases hx) []
  rw[e0,jI]at h
  rw[e0]
  exact let ag:List AV:=[.str [],.sl .sh [],.sl .sh [],.sl .sh [],.bool false];let ax:List AV:=[.sl .sh (s.nodes.map aA),.str nm];gG 60 [] trivial (.aG (ax) (.tuple [.agg ag,.bool false]) h1<|.len (show dA false (.sl .sh [])=some (.int .i64 (↑[].length:Int))from gH _ _)<|.aT Be [(1,.str nm),(2,.ptr 0 0),(7,.sl .full []),(18,.sl .sh []),(19,.int .i64 (↑[].length:Int)),(20,.int .i64 0)] ({boxes:=[[.sl .sh (s.nodes.map aA),.sl .sh (s.aj.map af),.sl .sh (s.aY.map aP)],ag],toks:=[],loops:=[]:Heap}) (fun T hT=>(h T hT)))
 |some n=>
  rw[hf]at h1
  have e:yc s nm=yb s nm n.cap:=by unfold yc;rw[hf]
  rw[e]
  have h:=yf s hs nm n (hc n (kF hf)) n.cap 0 rfl [] (by simp) (fun x hx=>by cases hx) []
  rw[e0,jI,List.nil_append]at h
  exact let ag:List AV:=[.str n.name,.sl .sh (n.cap.map ai),.sl .sh (n.labels.map aI),.sl .sh (n.aV.map bu),.bool n.br];let ax:List AV:=[.sl .sh (s.nodes.map aA),.str nm];gG 60 [] trivial (.aG (ax) (.tuple [.agg ag,.bool true]) h1<|.len (lM .sh ai n.cap)<|.aT Be [(1,.str nm),(2,.ptr 0 0),(7,.sl .full []),(18,.sl .sh (n.cap.map ai)),(19,.int .i64 (↑n.cap.length)),(20,.int .i64 0)] ({boxes:=[[.sl .sh (s.nodes.map aA),.sl .sh (s.aj.map af),.sl .sh (s.aY.map aP)],ag],toks:=[],loops:=[]:Heap}) (fun T hT=>(h T hT)))
theorem yg(s:St)(hs:jm s)(hu:∀n,dG s n=cU s n)(nm:List UInt8)(n:Node)(hn:n.cap.length≤1000):∀(post:List aH)(i:Nat)(hd:n.cap.drop i=post)(acc:List AV)(ha:acc.length≤i)(hl:DT acc)(T:Env)
 (hT:Has T [(1,.str nm),(2,.ptr 0 0),(5,.ptr 1 0),(7,cB id acc),(8,.int .i64 i)]),
 bA cfg a59 Bf T ⟨[(aB s).cells,(aA n).cells],bY id acc,[]⟩ (aJ (cB id (acc++yb s nm post))):=by
 intro post
 induction post with
 |nil=>
  intro i hd acc ha hl T hT
  have hge:=bf hd
  rw[show acc++yb s nm []=acc by simp[yb]]
  exact gG 60 _ hT (.len (lM .sh ai n.cap)<|.no (dF ((↑i:Int)<(↑n.cap.length:Int)))<|.fin ((.ret (.sl (dS acc) (acc.map id)),{boxes:=[[.sl .sh (s.nodes.map aA),.sl .sh (s.aj.map af),.sl .sh (s.aY.map aP)],[.str n.name,.sl .sh (n.cap.map ai),.sl .sh (n.labels.map aI),.sl .sh (n.aV.map bu),.bool n.br]],toks:=bY id acc,loops:=[]:Heap})) rfl)
 |cons x post ih=>
  intro i hd acc ha hl T hT
  have hlt:=bg hd
  have cq:=aL hd
  have cn:cc 2 (.sl .sh (n.cap.map ai)) (.int .i64 (i:Nat))=some (.ref (ai x).cells):=bx (f:=ai) hd rfl
  have hf:=NT s hs hu nm x.name
  have fl:=Ax s nm x.name
  have e:acc++yb s nm (x::post)=(acc++[ya s nm x.name])++yb s nm post:=by simp[yb]
  rw[e]
  generalize ya s nm x.name=u at hf fl⊢
  haveI:=fl.C
  have cQ:=ih (i+1) cq (acc++[u]) (by simp;omega) (yd hl fl)
  have bs:=RB fl
  have ap:=RC hl fl (by omega)
  exact let ag:List (List AV):=[[.sl .sh (s.nodes.map aA),.sl .sh (s.aj.map af),.sl .sh (s.aY.map aP)],[.str n.name,.sl .sh (n.cap.map ai),.sl .sh (n.labels.map aI),.sl .sh (n.aV.map bu),.bool n.br]];let ax:Heap:={boxes:=ag,toks:=bY id acc,loops:=[]:Heap};let aS:Heap:={boxes:=ag,toks:=bY id (acc++[u]),loops:=[]:Heap};gG 120 _ hT (.len (lM .sh ai n.cap)<|.yes (dT ((↑i:Int)<(↑n.cap.length:Int)))<|.idx cn<|.bE ([.agg [.sl .sh (s.nodes.map aA),.sl .sh (s.aj.map af),.sl .sh (s.aY.map aP)],.str nm,.str x.name]) (u) hf ⟨rfl,rfl⟩ fe.p<|.cw (show cv cfg (.bO 1 [.c u]) ax (.sl .full [u]) ax from bs _)<|.append (show bw 1 8 ax (.sl (dS acc) (acc.map id)) (.sl .full [u])=some ((cB id (acc++[u]),aS))from ap _ _)<|.bin (iI i)<|.aT Bf [(1,.str nm),(2,.ptr 0 0),(5,.ptr 1 0),(7,.sl (dS (acc++[u])) (List.map id (acc++[u]))),(8,.int .i64 (↑(i+1)))] (aS) (fun T hT=>(cQ T hT)))
theorem J'(s:St)(hs:jm s)(hu:∀n,dG s n=cU s n)(hc:∀n∈s.nodes,n.cap.length≤1000)(nm:List UInt8):aq cfg 59 [aB s,.str nm] (cB id (yc s nm)):=by
 refine aq.run (Yd _ _) ?_
 have h1:=iT s.nodes nm hs.nodes
 have e0:cB id ([]:List AV)=.sl .full []:=rfl
 cases hf:cL Node.name s.nodes nm with
 |none=>
  rw[hf]at h1
  have e:yc s nm=[]:=by unfold yc;rw[hf]
  rw[e]
  have h:=yg s hs hu nm ez (by simp[ez]) [] 0 rfl [] (by simp) (fun x hx=>by cases hx)
  rw[e0,jI]at h
  rw[e0]
  exact let ag:List AV:=[.str [],.sl .sh [],.sl .sh [],.sl .sh [],.bool false];let ax:List AV:=[.sl .sh (s.nodes.map aA),.str nm];gG 60 [] trivial (.aG (ax) (.tuple [.agg ag,.bool false]) h1<|.aT Bf [(1,.str nm),(2,.ptr 0 0),(5,.ptr 1 0),(7,.sl .full []),(8,.int .i64 0)] ({boxes:=[[.sl .sh (s.nodes.map aA),.sl .sh (s.aj.map af),.sl .sh (s.aY.map aP)],ag],toks:=[],loops:=[]:Heap}) (fun T hT=>(h T hT)))
 |some n=>
  rw[hf]at h1
  have e:yc s nm=yb s nm n.cap:=by unfold yc;rw[hf]
  rw[e]
  have h:=yg s hs hu nm n (hc n (kF hf)) n.cap 0 rfl [] (by simp) (fun x hx=>by cases hx)
  rw[e0,jI,List.nil_append]at h
  exact let ag:List AV:=[.str n.name,.sl .sh (n.cap.map ai),.sl .sh (n.labels.map aI),.sl .sh (n.aV.map bu),.bool n.br];let ax:List AV:=[.sl .sh (s.nodes.map aA),.str nm];gG 60 [] trivial (.aG (ax) (.tuple [.agg ag,.bool true]) h1<|.aT Bf [(1,.str nm),(2,.ptr 0 0),(5,.ptr 1 0),(7,.sl .full []),(8,.int .i64 0)] ({boxes:=[[.sl .sh (s.nodes.map aA),.sl .sh (s.aj.map af),.sl .sh (s.aY.map aP)],ag],toks:=[],loops:=[]:Heap}) (fun T hT=>(h T hT)))
end Go.Aa.T

