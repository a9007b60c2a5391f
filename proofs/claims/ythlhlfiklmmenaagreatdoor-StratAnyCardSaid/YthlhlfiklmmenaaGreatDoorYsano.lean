import Derived.Test.YthlhlfiklmmenaaGreatDoorYsann
set_option linter.unusedVariables false
set_option linter.unusedSimpArgs false
set_option maxRecDepth 100000
namespace Go.Aa.T
open Go.Aa Go.Proofs
theorem HY{B:List (List AV)}{nb k o:Nat}{g:FuncId}{cs:List AV}(hl:nb≤k):de nb 0 (.func g (.ptr k o::cs)) ⟨B,[],[]⟩=⟨B,[],[]⟩:=by
 unfold de
 have hw:within nb 0 (.func g (.ptr k o::cs))=false:=by
  have:¬k<nb:=by omega
  simp[within,rZ,Og,yA,this]
 simp only[hw,List.length_nil,List.all_nil,Bool.true_and,Bool.and_false,Bool.false_and,Bool.false_eq_true,if_false,List.take_zero,ite_self]
theorem gP{B ex:List (List AV)}{tk:List Nat}{g:FuncId}{k o:Nat}{cs:List AV}{x:AV}{b:Bool}(h:lim cfg (.fn g) ([x]++(.ptr k o::cs)) ⟨B,tk,[]⟩=some (.ret (.bool b),⟨B++ex,tk,[]⟩))(hx:bz x=x)(hB:B.all (·.all bI)=true):
 cv cfg (.call (.c (.func g (.ptr k o::cs))) [.c x]) ⟨B,tk,[]⟩ (.bool b) ⟨B,tk,[]⟩:=by
 have hd:=bU (xs:=[x]) (caps:=.ptr k o::cs) h (by show [bz x]=[x];rw[hx]) (by show(([x].all bK)&&(Go.Aa.bI (.ptr k o)&&cs.all bI))=false;rw[show Go.Aa.bI (.ptr k o)=false from rfl,Bool.false_and,Bool.and_false])
 rw[show bz (.bool b)=.bool b from rfl,show(⟨B,tk,[]⟩:Heap).boxes.length=B.length from rfl,show(⟨B,tk,[]⟩:Heap).toks.length=tk.length from rfl,lH hB]at hd
 exact hd
section
variable{H:Heap}{g:FuncId}{k:Nat}{p:cT→Bool}
theorem AA(hd:∀y:cT,cv cfg (.call (.c (.func g [.ptr k 0])) [.c (af y)]) H (.bool (p y)) H)(l:List cT)(hn:l.length<9223372036854775807):∀(post:List cT)(i:Nat)(gU:l.drop i=post)(T:Env)
 (hT:Has T [(0,.sl .sh (l.map af)),(1,.func g [.ptr k 0]),(7,.int .i64 l.length),(8,.int .i64 i)]),
 bA cfg E8 zT T H (fun r=>r=(.ret (.int .i64 (bF p post i)),H)):=by
 intro post
 induction post with
 |nil=>
  intro i gU T hT
  have hge:=bf gU
  exact gG 60 _ hT (.no (dF ((↑i:Int)<(↑l.length:Int)))<|.fin ((.ret (.int .i64 (-1:Int)),H)) rfl)
 |cons x post ih=>
  intro i gU T hT
  have hlt:=bg gU
  have cq:=aL gU
  have nI:=hd x
  cases hp:p x with
  |true=>
   rw[hp]at nI
   have e:bF p (x::post) i=i:=by simp[bF,hp]
   rw[e]
   exact let ag:List AV:=[.str x.name,.str x.owner,.int .i64 x.prio,.sl .sh (x.need.map ai),.sl .sh (x.labels.map aI),.sl .sh (x.bS.map aX),.sl .sh (x.bh.map aQ),.str x.key,.int .i64 x.most,.str x.node,.bool x.hold];gG 60 _ hT (.yes (dT ((↑i:Int)<(↑l.length:Int)))<|.idx (iR 11 af gU)<|.load (rfl:ak true 11 H (.ref ag)=some (.agg ag))<|.cw nI<|.tt<|.fin ((.ret (.int .i64 ↑i),H)) rfl)
  |false=>
   rw[hp]at nI
   have e:bF p (x::post) i=bF p post (i+1):=by simp[bF,hp]
   rw[e]
   exact let ag:List AV:=[.str x.name,.str x.owner,.int .i64 x.prio,.sl .sh (x.need.map ai),.sl .sh (x.labels.map aI),.sl .sh (x.bS.map aX),.sl .sh (x.bh.map aQ),.str x.key,.int .i64 x.most,.str x.node,.bool x.hold];gG 60 _ hT (.yes (dT ((↑i:Int)<(↑l.length:Int)))<|.idx (iR 11 af gU)<|.load (rfl:ak true 11 H (.ref ag)=some (.agg ag))<|.cw nI<|.ff<|.bin (iI i)<|.aT zT [(0,.sl .sh (l.map af)),(1,.func g [.ptr k 0]),(7,.int .i64 (↑l.length)),(8,.int .i64 (↑(i+1)))] (H) (fun T hT=>(ih (i+1) cq T hT)))
theorem RL(hd:∀y:cT,cv cfg (.call (.c (.func g [.ptr k 0])) [.c (af y)]) H (.bool (p y)) H)(l:List cT)(hn:l.length<9223372036854775807):
 cv cfg (.call (.c (.func 141 [])) [.c (.sl .sh (l.map af)),.c (.func g [.ptr k 0])]) H (.bool (l.any p)) H:=by
 have hl:lim cfg (.fn 217) [.sl .sh (l.map af),.func g [.ptr k 0]] H=some (.ret (.int .i64 (bF p l 0)),H):=by
  rw[UF]
  have h:=AA hd l hn l 0 rfl
  have key:bA cfg E8 [.c Mz] (ay [.sl .sh (l.map af),.func g [.ptr k 0]]) H (fun r=>r=(.ret (.int .i64 (bF p l 0)),H)):=by
   exact gG 60 [] trivial (.len (lM .sh af l)<|.aT zT [(0,.sl .sh (l.map af)),(1,.func g [.ptr k 0]),(7,.int .i64 (↑l.length)),(8,.int .i64 0)] (H) (fun T hT=>(h T hT)))
  obtain⟨r,h,rfl⟩:=key
  exact h
 have h0:=bU (xs:=[.sl .sh (l.map af),.func g [.ptr k 0]]) (caps:=[]) hl rfl rfl
 rw[show bz (.int .i64 (bF p l 0))=.int .i64 (bF p l 0)from rfl,dc]at h0
 have hf:decide (0≤bF p l 0)=l.any p:=gV p l 0
 have key:bA cfg a141 [.c Mm] (ay [.sl .sh (l.map af),.func g [.ptr k 0]]) H (fun r=>r=(.ret (.bool (l.any p)),H)):=by
  rw[←hf]
  generalize bF p l 0=c at h0
  exact gG 60 [] trivial (.cw h0<|.fin ((.ret (.bool (decide ((0:Int)≤c))),H)) rfl)
 obtain⟨r,h,rfl⟩:=key
 have h2:lim cfg (.fn 141) ([.sl .sh (l.map af),.func g [.ptr k 0]]++[]) H=some (.ret (.bool (l.any p)),H):=by
  rw[T7];exact h
 have h3:=bU (xs:=[.sl .sh (l.map af),.func g [.ptr k 0]]) (caps:=[]) h2 rfl rfl
 rwa [show bz (.bool (l.any p))=.bool (l.any p)from rfl,dc]at h3
end
section
variable{H:Heap}{g:FuncId}{k j:Nat}{p:Node→Bool}
theorem AB(hd:∀y:Node,cv cfg (.call (.c (.func g [.ptr k 0,.ptr j 0])) [.c (aA y)]) H (.bool (p y)) H)(l:List Node)(hn:l.length<9223372036854775807):∀(post:List Node)(i:Nat)(gU:l.drop i=post)(T:Env)
 (hT:Has T [(0,.sl .sh (l.map aA)),(1,.func g [.ptr k 0,.ptr j 0]),(7,.int .i64 l.length),(8,.int .i64 i)]),
 bA cfg a218 zU T H (fun r=>r=(.ret (.int .i64 (bF p post i)),H)):=by
 intro post
 induction post with
 |nil=>
  intro i gU T hT
  have hge:=bf gU
  exact gG 60 _ hT (.no (dF ((↑i:Int)<(↑l.length:Int)))<|.fin ((.ret (.int .i64 (-1:Int)),H)) rfl)
 |cons x post ih=>
  intro i gU T hT
  have hlt:=bg gU
  have cq:=aL gU
  have nI:=hd x
  cases hp:p x with
  |true=>
   rw[hp]at nI
   have e:bF p (x::post) i=i:=by simp[bF,hp]
   rw[e]
   exact let ag:List AV:=[.str x.name,.sl .sh (x.cap.map ai),.sl .sh (x.labels.map aI),.sl .sh (x.aV.map bu),.bool x.br];gG 60 _ hT (.yes (dT ((↑i:Int)<(↑l.length:Int)))<|.idx (iR 5 aA gU)<|.load (rfl:ak true 5 H (.ref ag)=some (.agg ag))<|.cw nI<|.tt<|.fin ((.ret (.int .i64 ↑i),H)) rfl)
  |false=>
   rw[hp]at nI
   have e:bF p (x::post) i=bF p post (i+1):=by simp[bF,hp]
   rw[e]
   exact let ag:List AV:=[.str x.name,.sl .sh (x.cap.map ai),.sl .sh (x.labels.map aI),.sl .sh (x.aV.map bu),.bool x.br];let ax:List AV:=[.ptr k 0,.ptr j 0];gG 60 _ hT (.yes (dT ((↑i:Int)<(↑l.length:Int)))<|.idx (iR 5 aA gU)<|.load (rfl:ak true 5 H (.ref ag)=some (.agg ag))<|.cw nI<|.ff<|.bin (iI i)<|.aT zU [(0,.sl .sh (l.map aA)),(1,.func g ax),(7,.int .i64 (↑l.length)),(8,.int .i64 (↑(i+1)))] (H) (fun T hT=>(ih (i+1) cq T hT)))
theorem Lw(hd:∀y:Node,cv cfg (.call (.c (.func g [.ptr k 0,.ptr j 0])) [.c (aA y)]) H (.bool (p y)) H)(l:List Node)(hn:l.length<9223372036854775807):
 cv cfg (.call (.c (.func 144 [])) [.c (.sl .sh (l.map aA)),.c (.func g [.ptr k 0,.ptr j 0])]) H (.bool (l.any p)) H:=by
 have hl:lim cfg (.fn 218) [.sl .sh (l.map aA),.func g [.ptr k 0,.ptr j 0]] H=some (.ret (.int .i64 (bF p l 0)),H):=by
  rw[UG]
  have h:=AB hd l hn l 0 rfl
  have key:bA cfg a218 [.c MA] (ay [.sl .sh (l.map aA),.func g [.ptr k 0,.ptr j 0]]) H (fun r=>r=(.ret (.int .i64 (bF p l 0)),H)):=by
   exact gG 60 [] trivial (.len (lM .sh aA l)<|.aT zU [(0,.sl .sh (l.map aA)),(1,.func g [.ptr k 0,.ptr j 0]),(7,.int .i64 (↑l.length)),(8,.int .i64 0)] (H) (fun T hT=>(h T hT)))
  obtain⟨r,h,rfl⟩:=key
  exact h
 have h0:=bU (xs:=[.sl .sh (l.map aA),.func g [.ptr k 0,.ptr j 0]]) (caps:=[]) hl rfl rfl
 rw[show bz (.int .i64 (bF p l 0))=.int .i64 (bF p l 0)from rfl,dc]at h0
 have hf:decide (0≤bF p l 0)=l.any p:=gV p l 0
 have key:bA cfg IX [.c Mp] (ay [.sl .sh (l.map aA),.func g [.ptr k 0,.ptr j 0]]) H (fun r=>r=(.ret (.bool (l.any p)),H)):=by
  rw[←hf]
  generalize bF p l 0=c at h0
  exact gG 60 [] trivial (.cw h0<|.fin ((.ret (.bool (decide ((0:Int)≤c))),H)) rfl)
 obtain⟨r,h,rfl⟩:=key
 have h2:lim cfg (.fn 144) ([.sl .sh (l.map aA),.func g [.ptr k 0,.ptr j 0]]++[]) H=some (.ret (.bool (l.any p)),H):=by
  rw[Ua];exact h
 have h3:=bU (xs:=[.sl .sh (l.map aA),.func g [.ptr k 0,.ptr j 0]]) (caps:=[]) h2 rfl rfl
 rwa [show bz (.bool (l.any p))=.bool (l.any p)from rfl,dc]at h3
end
def DA(s:St)(p:cT):Bool:=(cP p.bh ((cL Node.name s.nodes p.node).getD ez).aV).isSome
def rX(p x:cT):Bool:=x.owner==p.owner&&(!x.hold&&Op.bytesLess x.name p.name)
def DB(s:St)(p:cT):Bool:= !(p.owner==[])&&(xP s p.node).any (rX p)
structure vF(s:St):Prop where
 ins:jm s
 nodes:s.nodes.length≤500
 cap:∀n∈s.nodes,n.cap.length≤1000
 nd:∀n∈s.nodes,RF n
 pd:∀p∈s.aj,N2 p
theorem Vz(s:St){lo hi:AV}(hl:Fl lo)(hh:Fl hi){ex:List (List AV)}(he:ex.all (·.all bI)=true):((aB s).cells::[lo,hi]::ex).all (·.all bI)=true:=by
 rw[List.all_cons,List.all_cons,he,BG]
 show(true&&((Go.Aa.bI lo&&(Go.Aa.bI hi&&true))&&true))=true
 rw[hl.d0,hh.d0];rfl
theorem hp2(s:St){lo hi:AV}(hl:Fl lo)(hh:Fl hi){ex:List (List AV)}(he:ex.all (·.all bI)=true):((aB s).cells::[lo,hi]::(aB s).cells::[lo,hi]::ex).all (·.all bI)=true:=
 Vz s hl hh (Vz s hl hh he)
theorem RM(s:St)(h:vF s){lo hi:AV}(hl:Fl lo)(hh:Fl hi)(tk:List Nat)(ex:List (List AV))(he:ex.all (·.all bI)=true)(x:cT)(hx:N2 x):
 cv cfg (.call (.c (.func 136 [.ptr 2 0])) [.c (af x)]) ⟨(aB s).cells::[lo,hi]::(aB s).cells::[lo,hi]::ex,tk,[]⟩ (.bool (DA s x)) ⟨(aB s).cells::[lo,hi]::(aB s).cells::[lo,hi]::ex,tk,[]⟩:=by
 have f:=iS s.nodes x.node h.ins.nodes
 cases hf:cL Node.name s.nodes x.node with
 |none=>
  rw[hf]at f
  have w:=ua x.bh ez.aV hx.bh (by simp[ez])
  have e:DA s x=(cP x.bh ez.aV).isSome:=by unfold DA;rw[hf];rfl
  have key:bA cfg EK [.c IT] (ay [af x,.ptr 2 0]) ⟨(aB s).cells::[lo,hi]::(aB s).cells::[lo,hi]::ex,tk,[]⟩ (fun r=>r=(.ret (.bool (DA s x)),⟨(aB s).cells::[lo,hi]::(aB s).cells::[lo,hi]::(ex++[(af x).cells,(aA ez).cells,(bu ((cP x.bh ez.aV).getD CM)).cells]),tk,[]⟩)):=by
   rw[e]
   have w:aq cfg 84 [.sl .sh (x.bh.map aQ),.sl .sh []] (lG (cP x.bh ez.aV)):=w
   unfold lG at w
   generalize cP x.bh ez.aV=q at w⊢
   exact let ag:List AV:=[.str x.name,.str x.owner,.int .i64 x.prio,.sl .sh (x.need.map ai),.sl .sh (x.labels.map aI),.sl .sh (x.bS.map aX),.sl .sh (x.bh.map aQ),.str x.key,.int .i64 x.most,.str x.node,.bool x.hold];let ax:List AV:=[.sl .sh (s.nodes.map aA),.sl .sh (s.aj.map af),.sl .sh (s.aY.map aP)];let aS:List AV:=[.str [],.sl .sh [],.sl .sh [],.sl .sh [],.bool false];let bt:List AV:=[.str (q.getD CM).key,.str (q.getD CM).val,.bool (q.getD CM).dB];let bR:Heap:={boxes:=ax::[lo,hi]::ax::[lo,hi]::(ex++[ag,aS]),toks:=tk,loops:=[]:Heap};let dm:Heap:={boxes:=ax::[lo,hi]::ax::[lo,hi]::(ex++[ag,aS,bt]),toks:=tk,loops:=[]:Heap};let eH:Heap:={boxes:=ax::[lo,hi]::ax::[lo,hi]::(ex++[ag]),toks:=tk,loops:=[]:Heap};let gJ:List AV:=[.str [],.sl .full [],.sl .full [],.sl .full [],.bool false];let jC:List AV:=[.sl .sh (s.nodes.map aA),.str x.node];let gY:List AV:=[.sl .sh (x.bh.map aQ),.sl .sh []];gG 120 [] trivial (.load (lB false 1 eH 2 0 (.sl .sh (s.nodes.map aA)) ax)<|.load (show ak false 1 eH (.ptr (ax::[lo,hi]::ax::[lo,hi]::ex).length 9)=some (.str x.node)from ah (cs:=ag) (by simp+zetaDelta) rfl)<|.aG (jC) (.tuple [.agg aS,.bool false]) f<|.store (show aW 5 {boxes:=ax::[lo,hi]::ax::[lo,hi]::(ex++[ag]++[gJ]),toks:=tk,loops:=[]:Heap} (.ptr (ax::[lo,hi]::ax::[lo,hi]::(ex++[ag])).length 0) (.agg aS)=some (bR)from aC (cs:=gJ) (cs':=aS) (by simp+zetaDelta) rfl (by simp+zetaDelta [List.set_append]))<|.load (show ak false 1 bR (.ptr (ax::[lo,hi]::ax::[lo,hi]::ex).length 6)=some (.sl .sh (x.bh.map aQ))from ah (cs:=ag) (by simp+zetaDelta) rfl)<|.load (show ak false 1 bR (.ptr (ax::[lo,hi]::ax::[lo,hi]::(ex++[ag])).length 3)=some (.sl .sh [])from ah (cs:=aS) (by simp+zetaDelta) rfl)<|.aG (gY) (.tuple [.agg bt,.bool q.isSome]) w<|.store (show aW 3 {boxes:=ax::[lo,hi]::ax::[lo,hi]::(ex++[ag,aS]++[[AV.str [],.str [],.bool false]]),toks:=tk,loops:=[]:Heap} (.ptr (ax::[lo,hi]::ax::[lo,hi]::(ex++[ag,aS])).length 0) (.agg bt)=some (dm)from aC (cs:=[.str [],.str [],.bool false]) (cs':=bt) (by simp+zetaDelta) rfl (by simp+zetaDelta [List.set_append]))<|.fin ((.ret (.bool q.isSome),dm)) rfl)
  obtain⟨r,h1,rfl⟩:=key
  exact gP (ex:=[(af x).cells,(aA ez).cells,(bu ((cP x.bh ez.aV).getD CM)).cells]) (by rw[show [af x]++[AV.ptr 2 0]=[af x,.ptr 2 0]from rfl,QI,h1];simp) rfl (hp2 s hl hh he)
 |some n=>
  rw[hf]at f
  have w:=ua x.bh n.aV hx.bh (h.nd n (kF hf)).aV
  have e:DA s x=(cP x.bh n.aV).isSome:=by unfold DA;rw[hf];rfl
  have key:bA cfg EK [.c IT] (ay [af x,.ptr 2 0]) ⟨(aB s).cells::[lo,hi]::(aB s).cells::[lo,hi]::ex,tk,[]⟩ (fun r=>r=(.ret (.bool (DA s x)),⟨(aB s).cells::[lo,hi]::(aB s).cells::[lo,hi]::(ex++[(af x).cells,(aA n).cells,(bu ((cP x.bh n.aV).getD CM)).cells]),tk,[]⟩)):=by
   rw[e]
   unfold lG at w
   generalize cP x.bh n.aV=q at w⊢
   exact let ag:List AV:=[.str x.name,.str x.owner,.int .i64 x.prio,.sl .sh (x.need.map ai),.sl .sh (x.labels.map aI),.sl .sh (x.bS.map aX),.sl .sh (x.bh.map aQ),.str x.key,.int .i64 x.most,.str x.node,.bool x.hold];let ax:List AV:=[.sl .sh (s.nodes.map aA),.sl .sh (s.aj.map af),.sl .sh (s.aY.map aP)];let aS:List AV:=[.str n.name,.sl .sh (n.cap.map ai),.sl .sh (n.labels.map aI),.sl .sh (n.aV.map bu),.bool n.br];let bt:List AV:=[.str (q.getD CM).key,.str (q.getD CM).val,.bool (q.getD CM).dB];let bR:Heap:={boxes:=ax::[lo,hi]::ax::[lo,hi]::(ex++[ag,aS]),toks:=tk,loops:=[]:Heap};let dm:Heap:={boxes:=ax::[lo,hi]::ax::[lo,hi]::(ex++[ag,aS,bt]),toks:=tk,loops:=[]:Heap};let eH:Heap:={boxes:=ax::[lo,hi]::ax::[lo,hi]::(ex++[ag]),toks:=tk,loops:=[]:Heap};let gJ:List AV:=[.str [],.sl .full [],.sl .full [],.sl .full [],.bool false];let jC:List AV:=[.sl .sh (x.bh.map aQ),.sl .sh (n.aV.map bu)];let gY:List AV:=[.sl .sh (s.nodes.map aA),.str x.node];gG 120 [] trivial (.load (lB false 1 eH 2 0 (.sl .sh (s.nodes.map aA)) ax)<|.load (show ak false 1 eH (.ptr (ax::[lo,hi]::ax::[lo,hi]::ex).length 9)=some (.str x.node)from ah (cs:=ag) (by simp+zetaDelta) rfl)<|.aG (gY) (.tuple [.agg aS,.bool true]) f<|.store (show aW 5 {boxes:=ax::[lo,hi]::ax::[lo,hi]::(ex++[ag]++[gJ]),toks:=tk,loops:=[]:Heap} (.ptr (ax::[lo,hi]::ax::[lo,hi]::(ex++[ag])).length 0) (.agg aS)=some (bR)from aC (cs:=gJ) (cs':=aS) (by simp+zetaDelta) rfl (by simp+zetaDelta [List.set_append]))<|.load (show ak false 1 bR (.ptr (ax::[lo,hi]::ax::[lo,hi]::ex).length 6)=some (.sl .sh (x.bh.map aQ))from ah (cs:=ag) (by simp+zetaDelta) rfl)<|.load (show ak false 1 bR (.ptr (ax::[lo,hi]::ax::[lo,hi]::(ex++[ag])).length 3)=some (.sl .sh (n.aV.map bu))from ah (cs:=aS) (by simp+zetaDelta) rfl)<|.aG (jC) (.tuple [.agg bt,.bool q.isSome]) w<|.store (show aW 3 {boxes:=ax::[lo,hi]::ax::[lo,hi]::(ex++[ag,aS]++[[AV.str [],.str [],.bool false]]),toks:=tk,loops:=[]:Heap} (.ptr (ax::[lo,hi]::ax::[lo,hi]::(ex++[ag,aS])).length 0) (.agg bt)=some (dm)from aC (cs:=[.str [],.str [],.bool false]) (cs':=bt) (by simp+zetaDelta) rfl (by simp+zetaDelta [List.set_append]))<|.fin ((.ret (.bool q.isSome),dm)) rfl)
  obtain⟨r,h1,rfl⟩:=key
  exact gP (ex:=[(af x).cells,(aA n).cells,(bu ((cP x.bh n.aV).getD CM)).cells]) (by rw[show [af x]++[AV.ptr 2 0]=[af x,.ptr 2 0]from rfl,QI,h1];simp) rfl (hp2 s hl hh he)
theorem RN(s:St)(h:vF s){lo hi:AV}(hl:Fl lo)(hh:Fl hi)(tk:List Nat)(l:List (List UInt8))(hn:l.length<9223372036854775807)(ex:List (List AV))(he:ex.all (·.all bI)=true)(x:cT):
 cv cfg (.call (.c (.func 138 [.ptr 4 0])) [.c (af x)]) ⟨(aB s).cells::[lo,hi]::(aB s).cells::[lo,hi]::[.sl .sh (l.map .str)]::ex,tk,[]⟩ (.bool (vC l x.name)) ⟨(aB s).cells::[lo,hi]::(aB s).cells::[lo,hi]::[.sl .sh (l.map .str)]::ex,tk,[]⟩:=by
 have c:=Kj l x.name hn
 have key:bA cfg a138 [.c Mk] (ay [af x,.ptr 4 0]) ⟨(aB s).cells::[lo,hi]::(aB s).cells::[lo,hi]::[.sl .sh (l.map .str)]::ex,tk,[]⟩ (fun r=>r=(.ret (.bool (vC l x.name)),⟨(aB s).cells::[lo,hi]::(aB s).cells::[lo,hi]::[.sl .sh (l.map .str)]::(ex++[(af x).cells]),tk,[]⟩)):=by
  exact let ax:List AV:=[.sl .sh (s.nodes.map aA),.sl .sh (s.aj.map af),.sl .sh (s.aY.map aP)];let ag:Heap:={boxes:=ax::[lo,hi]::ax::[lo,hi]::[.sl .sh (List.map .str l)]::(ex++[[AV.str x.name,.str x.owner,.int .i64 x.prio,.sl .sh (x.need.map ai),.sl .sh (x.labels.map aI),.sl .sh (x.bS.map aX),.sl .sh (x.bh.map aQ),.str x.key,.int .i64 x.most,.str x.node,.bool x.hold]]),toks:=tk,loops:=[]:Heap};let aS:List AV:=[.sl .sh (List.map .str l),.str x.name];gG 120 [] trivial (.load (lB false 1 ag 4 0 (.sl .sh (List.map .str l)) [.sl .sh (List.map .str l)])<|.load (show ak false 1 ag (.ptr (ax::[lo,hi]::ax::[lo,hi]::[.sl .sh (List.map .str l)]::ex).length 0)=some (.str x.name)from ah (cs:=[.str x.name,.str x.owner,.int .i64 x.prio,.sl .sh (x.need.map ai),.sl .sh (x.labels.map aI),.sl .sh (x.bS.map aX),.sl .sh (x.bh.map aQ),.str x.key,.int .i64 x.most,.str x.node,.bool x.hold]) (by simp+zetaDelta) rfl)<|.aG (aS) (.bool (vC l x.name)) c<|.fin ((.ret (.bool (vC l x.name)),ag)) rfl)
 obtain⟨r,h1,rfl⟩:=key
 exact gP (ex:=[(af x).cells]) (by rw[show [af x]++[AV.ptr 4 0]=[af x,.ptr 4 0]from rfl,T3,h1];simp) rfl (hp2 s hl hh (by rw[List.all_cons,he];rfl))
theorem RO(s:St)(h:vF s){lo hi:AV}(hl:Fl lo)(hh:Fl hi)(tk:List Nat)(ex:List (List AV))(he:ex.all (·.all bI)=true)(p x:cT):
 cv cfg (.call (.c (.func 142 [.ptr (ex.length+4) 0])) [.c (af x)]) ⟨(aB s).cells::[lo,hi]::(aB s).cells::[lo,hi]::(ex++[(af p).cells]),tk,[]⟩ (.bool (rX p x)) ⟨(aB s).cells::[lo,hi]::(aB s).cells::[lo,hi]::(ex++[(af p).cells]),tk,[]⟩:=by
 have key:bA cfg IW [.c Mn] (ay [af x,.ptr (ex.length+4) 0]) ⟨(aB s).cells::[lo,hi]::(aB s).cells::[lo,hi]::(ex++[(af p).cells]),tk,[]⟩ (fun r=>r=(.ret (.bool (rX p x)),⟨(aB s).cells::[lo,hi]::(aB s).cells::[lo,hi]::(ex++[(af p).cells]++[(af x).cells]),tk,[]⟩)):=by
  by_cases h1:x.owner=p.owner
  ·cases h2:x.hold with
   |true=>
    have e:rX p x=false:=by simp[rX,h1,h2]
    rw[e]
    exact let ax:List AV:=[.str p.name,.str p.owner,.int .i64 p.prio,.sl .sh (p.need.map ai),.sl .sh (p.labels.map aI),.sl .sh (p.bS.map aX),.sl .sh (p.bh.map aQ),.str p.key,.int .i64 p.most,.str p.node,.bool p.hold];let aS:List AV:=[.sl .sh (s.nodes.map aA),.sl .sh (s.aj.map af),.sl .sh (s.aY.map aP)];let bt:List AV:=[.str x.name,.str x.owner,.int .i64 x.prio,.sl .sh (x.need.map ai),.sl .sh (x.labels.map aI),.sl .sh (x.bS.map aX),.sl .sh (x.bh.map aQ),.str x.key,.int .i64 x.most,.str x.node,.bool x.hold];let ag:Heap:={boxes:=aS::[lo,hi]::aS::[lo,hi]::(ex++[ax]++[bt]),toks:=tk,loops:=[]:Heap};gG 120 [] trivial (.load (show ak false 1 ag (.ptr (aS::[lo,hi]::aS::[lo,hi]::(ex++[ax])).length 1)=some (.str x.owner)from ah (cs:=bt) (by simp+zetaDelta) rfl)<|.load (lB false 1 ag (ex.length+4) 1 (.str p.owner) ax)<|.yes (show(x.owner==p.owner)=true from(by simpa using h1))<|.load (show ak false 1 ag (.ptr (aS::[lo,hi]::aS::[lo,hi]::(ex++[ax])).length 10)=some (.bool x.hold)from ah (cs:=bt) (by simp+zetaDelta) rfl)<|.no (show(!x.hold)=false from by have hh:x.hold=true:=(by simp+zetaDelta [h2]);simp[hh])<|.fin ((.ret (.bool false),ag)) rfl)
   |false=>
    have e:rX p x=Op.bytesLess x.name p.name:=by simp[rX,h1,h2]
    rw[e]
    exact let ax:List AV:=[.str p.name,.str p.owner,.int .i64 p.prio,.sl .sh (p.need.map ai),.sl .sh (p.labels.map aI),.sl .sh (p.bS.map aX),.sl .sh (p.bh.map aQ),.str p.key,.int .i64 p.most,.str p.node,.bool p.hold];let aS:List AV:=[.sl .sh (s.nodes.map aA),.sl .sh (s.aj.map af),.sl .sh (s.aY.map aP)];let bt:List AV:=[.str x.name,.str x.owner,.int .i64 x.prio,.sl .sh (x.need.map ai),.sl .sh (x.labels.map aI),.sl .sh (x.bS.map aX),.sl .sh (x.bh.map aQ),.str x.key,.int .i64 x.most,.str x.node,.bool x.hold];let ag:Heap:={boxes:=aS::[lo,hi]::aS::[lo,hi]::(ex++[ax]++[bt]),toks:=tk,loops:=[]:Heap};gG 120 [] trivial (.load (show ak false 1 ag (.ptr (aS::[lo,hi]::aS::[lo,hi]::(ex++[ax])).length 1)=some (.str x.owner)from ah (cs:=bt) (by simp+zetaDelta) rfl)<|.load (lB false 1 ag (ex.length+4) 1 (.str p.owner) ax)<|.yes (show(x.owner==p.owner)=true from(by simpa using h1))<|.load (show ak false 1 ag (.ptr (aS::[lo,hi]::aS::[lo,hi]::(ex++[ax])).length 10)=some (.bool x.hold)from ah (cs:=bt) (by simp+zetaDelta) rfl)<|.yes (show(!x.hold)=true from by have hh:¬(x.hold=true):=(by simp+zetaDelta [h2]);simp[hh])<|.load (show ak false 1 ag (.ptr (aS::[lo,hi]::aS::[lo,hi]::(ex++[ax])).length 0)=some (.str x.name)from ah (cs:=bt) (by simp+zetaDelta) rfl)<|.load (lB false 1 ag (ex.length+4) 0 (.str p.name) ax)<|.fin ((.ret (.bool (Op.bytesLess x.name p.name)),ag)) rfl)
  ·have e:rX p x=false:=by simp[rX,h1]
   rw[e]
   exact let ax:List AV:=[.str p.name,.str p.owner,.int .i64 p.prio,.sl .sh (p.need.map ai),.sl .sh (p.labels.map aI),.sl .sh (p.bS.map aX),.sl .sh (p.bh.map aQ),.str p.key,.int .i64 p.most,.str p.node,.bool p.hold];let aS:List AV:=[.sl .sh (s.nodes.map aA),.sl .sh (s.aj.map af),.sl .sh (s.aY.map aP)];let ag:Heap:={boxes:=aS::[lo,hi]::aS::[lo,hi]::(ex++[ax]++[[AV.str x.name,.str x.owner,.int .i64 x.prio,.sl .sh (x.need.map ai),.sl .sh (x.labels.map aI),.sl .sh (x.bS.map aX),.sl .sh (x.bh.map aQ),.str x.key,.int .i64 x.most,.str x.node,.bool x.hold]]),toks:=tk,loops:=[]:Heap};gG 120 [] trivial (.load (show ak false 1 ag (.ptr (aS::[lo,hi]::aS::[lo,hi]::(ex++[ax])).length 1)=some (.str x.owner)from ah (cs:=[.str x.name,.str x.owner,.int .i64 x.prio,.sl .sh (x.need.map ai),.sl .sh (x.labels.map aI),.sl .sh (x.bS.map aX),.sl .sh (x.bh.map aQ),.str x.key,.int .i64 x.most,.str x.node,.bool x.hold]) (by simp+zetaDelta) rfl)<|.load (lB false 1 ag (ex.length+4) 1 (.str p.owner) ax)<|.no (show(x.owner==p.owner)=false from Bool.eq_false_iff.2 (by simpa using h1))<|.ff<|.fin ((.ret (.bool false),ag)) rfl)
 obtain⟨r,h1,rfl⟩:=key
 exact gP (ex:=[(af x).cells]) (by rw[show [af x]++[AV.ptr (ex.length+4) 0]=[af x,.ptr (ex.length+4) 0]from rfl,T8,h1];simp) rfl (hp2 s hl hh (by rw[List.all_append,he];rfl))
theorem RP(s:St)(h:vF s){lo hi:AV}(hl:Fl lo)(hh:Fl hi)(tk:List Nat)(ex:List (List AV))(he:ex.all (·.all bI)=true)(x:cT):
 cv cfg (.call (.c (.func 140 [.ptr 2 0])) [.c (af x)]) ⟨(aB s).cells::[lo,hi]::(aB s).cells::[lo,hi]::ex,tk,[]⟩ (.bool (DB s x)) ⟨(aB s).cells::[lo,hi]::(aB s).cells::[lo,hi]::ex,tk,[]⟩:=by
 have o:=G6 s x.node h.ins.aj
 have hlen:=G7 s x.node
 have hp:=h.ins.aj
 have a:=RL (fun y=>RO s h hl hh tk ex he x y) (xP s x.node) (by omega)
 have key:bA cfg IV [.c Ml] (ay [af x,.ptr 2 0]) ⟨(aB s).cells::[lo,hi]::(aB s).cells::[lo,hi]::ex,tk,[]⟩ (fun r=>r=(.ret (.bool (DB s x)),⟨(aB s).cells::[lo,hi]::(aB s).cells::[lo,hi]::(ex++[(af x).cells]),tk,[]⟩)):=by
  by_cases h1:x.owner=[]
  ·have e:DB s x=false:=by simp[DB,h1]
   rw[e]
   exact let ax:List AV:=[.sl .sh (s.nodes.map aA),.sl .sh (s.aj.map af),.sl .sh (s.aY.map aP)];let ag:Heap:={boxes:=ax::[lo,hi]::ax::[lo,hi]::(ex++[[AV.str x.name,.str x.owner,.int .i64 x.prio,.sl .sh (x.need.map ai),.sl .sh (x.labels.map aI),.sl .sh (x.bS.map aX),.sl .sh (x.bh.map aQ),.str x.key,.int .i64 x.most,.str x.node,.bool x.hold]]),toks:=tk,loops:=[]:Heap};gG 120 [] trivial (.load (show ak false 1 ag (.ptr (ax::[lo,hi]::ax::[lo,hi]::ex).length 1)=some (.str x.owner)from ah (cs:=[.str x.name,.str x.owner,.int .i64 x.prio,.sl .sh (x.need.map ai),.sl .sh (x.labels.map aI),.sl .sh (x.bS.map aX),.sl .sh (x.bh.map aQ),.str x.key,.int .i64 x.most,.str x.node,.bool x.hold]) (by simp+zetaDelta) rfl)<|.no (show(!x.owner==[])=false from by have hh:(x.owner==[])=true:=(by simpa using h1);simp[hh])<|.fin ((.ret (.bool false),ag)) rfl)
  ·have e:DB s x=(xP s x.node).any (rX x):=by simp[DB,h1]
   rw[e]
   generalize(xP s x.node).any (rX x)=b at a⊢
   generalize xP s x.node=l at a o
   exact let ax:List AV:=[.sl .sh (s.nodes.map aA),.sl .sh (s.aj.map af),.sl .sh (s.aY.map aP)];let aS:List AV:=[.str x.name,.str x.owner,.int .i64 x.prio,.sl .sh (x.need.map ai),.sl .sh (x.labels.map aI),.sl .sh (x.bS.map aX),.sl .sh (x.bh.map aQ),.str x.key,.int .i64 x.most,.str x.node,.bool x.hold];let ag:Heap:={boxes:=ax::[lo,hi]::ax::[lo,hi]::(ex++[aS]),toks:=tk,loops:=[]:Heap};let bt:Heap:={boxes:=(aB s).cells::[lo,hi]::(aB s).cells::[lo,hi]::(ex++[(af x).cells]),toks:=tk,loops:=[]:Heap};gG 120 [] trivial (.load (show ak false 1 ag (.ptr (ax::[lo,hi]::ax::[lo,hi]::ex).length 1)=some (.str x.owner)from ah (cs:=aS) (by simp+zetaDelta) rfl)<|.yes (show(!x.owner==[])=true from by have hh:¬((x.owner==[])=true):=(by simpa using h1);simp[hh])<|.load (lB true 3 ag 2 0 (.agg ax) ax)<|.load (show ak false 1 ag (.ptr (ax::[lo,hi]::ax::[lo,hi]::ex).length 9)=some (.str x.node)from ah (cs:=aS) (by simp+zetaDelta) rfl)<|.bE ([.agg ax,.str x.node]) (.sl .sh (l.map af)) o ⟨rfl,rfl⟩ fe.p<|.cw a<|.fin ((.ret (.bool b),ag)) rfl)
 obtain⟨r,h1,rfl⟩:=key
 exact gP (ex:=[(af x).cells]) (by rw[show [af x]++[AV.ptr 2 0]=[af x,.ptr 2 0]from rfl,T6,h1];simp) rfl (hp2 s hl hh he)
theorem RQ(s:St)(h:vF s){lo hi:AV}(hl:Fl lo)(hh:Fl hi)(tk:List Nat)(ex:List (List AV))(he:ex.all (·.all bI)=true)(x:cT):
 cv cfg (.call (.c (.func 143 [.ptr 2 0,.ptr 3 0])) [.c (af x)]) ⟨(aB s).cells::[lo,hi]::(aB s).cells::[lo,hi]::ex,tk,[]⟩ (.bool (pV s x.node lo hi==2)) ⟨(aB s).cells::[lo,hi]::(aB s).cells::[lo,hi]::ex,tk,[]⟩:=by
 haveI:=hl.C
 haveI:=hh.C
 have f:=vB s h.ins h.cap x.node hl hh
 have key:bA cfg a143 [.c Mo] (ay [af x,.ptr 2 0,.ptr 3 0]) ⟨(aB s).cells::[lo,hi]::(aB s).cells::[lo,hi]::ex,tk,[]⟩ (fun r=>r=(.ret (.bool (pV s x.node lo hi==2)),⟨(aB s).cells::[lo,hi]::(aB s).cells::[lo,hi]::(ex++[(af x).cells]),tk,[]⟩)):=by
  generalize pV s x.node lo hi=c at f⊢
  exact let ax:List AV:=[.sl .sh (s.nodes.map aA),.sl .sh (s.aj.map af),.sl .sh (s.aY.map aP)];let ag:Heap:={boxes:=ax::[lo,hi]::ax::[lo,hi]::(ex++[[AV.str x.name,.str x.owner,.int .i64 x.prio,.sl .sh (x.need.map ai),.sl .sh (x.labels.map aI),.sl .sh (x.bS.map aX),.sl .sh (x.bh.map aQ),.str x.key,.int .i64 x.most,.str x.node,.bool x.hold]]),toks:=tk,loops:=[]:Heap};gG 120 [] trivial (.load (lB true 3 ag 2 0 (.agg ax) ax)<|.load (show ak false 1 ag (.ptr (ax::[lo,hi]::ax::[lo,hi]::ex).length 9)=some (.str x.node)from ah (cs:=[.str x.name,.str x.owner,.int .i64 x.prio,.sl .sh (x.need.map ai),.sl .sh (x.labels.map aI),.sl .sh (x.bS.map aX),.sl .sh (x.bh.map aQ),.str x.key,.int .i64 x.most,.str x.node,.bool x.hold]) (by simp+zetaDelta) rfl)<|.load (lB true 2 ag 3 0 (.agg [lo,hi]) [lo,hi])<|.bE ([.agg ax,.str x.node,.agg [lo,hi]]) (.int .i64 c) f cA.p ⟨rfl,rfl⟩<|.fin ((.ret (.bool (c==(2:Int))),ag)) rfl)
 obtain⟨r,h1,rfl⟩:=key
 exact gP (ex:=[(af x).cells]) (by rw[show [af x]++[AV.ptr 2 0,.ptr 3 0]=[af x,.ptr 2 0,.ptr 3 0]from rfl,T9,h1];simp) rfl (hp2 s hl hh he)
theorem RR(s:St)(h:vF s){lo hi:AV}(hl:Fl lo)(hh:Fl hi)(tk:List Nat)(m:Bool)(ex:List (List AV))(he:ex.all (·.all bI)=true)(x:cT):
 cv cfg (.call (.c (.func 146 [.ptr 4 0,.ptr 2 0,.ptr 3 0])) [.c (af x)]) ⟨(aB s).cells::[lo,hi]::(aB s).cells::[lo,hi]::[.bool m]::ex,tk,[]⟩ (.bool (m&&(pV s x.node lo hi==0))) ⟨(aB s).cells::[lo,hi]::(aB s).cells::[lo,hi]::[.bool m]::ex,tk,[]⟩:=by
 haveI:=hl.C
 haveI:=hh.C
 have f:=vB s h.ins h.cap x.node hl hh
 have key:bA cfg a146 [.c Mq] (ay [af x,.ptr 4 0,.ptr 2 0,.ptr 3 0]) ⟨(aB s).cells::[lo,hi]::(aB s).cells::[lo,hi]::[.bool m]::ex,tk,[]⟩ (fun r=>r=(.ret (.bool (m&&(pV s x.node lo hi==0))),⟨(aB s).cells::[lo,hi]::(aB s).cells::[lo,hi]::[.bool m]::(ex++[(af x).cells]),tk,[]⟩)):=by
  generalize pV s x.node lo hi=c at f⊢
  cases m with
  |true=>
   rw[Bool.true_and]
   exact let ax:List AV:=[.sl .sh (s.nodes.map aA),.sl .sh (s.aj.map af),.sl .sh (s.aY.map aP)];let ag:Heap:={boxes:=ax::[lo,hi]::ax::[lo,hi]::[.bool true]::(ex++[[AV.str x.name,.str x.owner,.int .i64 x.prio,.sl .sh (x.need.map ai),.sl .sh (x.labels.map aI),.sl .sh (x.bS.map aX),.sl .sh (x.bh.map aQ),.str x.key,.int .i64 x.most,.str x.node,.bool x.hold]]),toks:=tk,loops:=[]:Heap};gG 120 [] trivial (.load (lB false 1 ag 4 0 (.bool true) [.bool true])<|.tt<|.load (lB true 3 ag 2 0 (.agg ax) ax)<|.load (show ak false 1 ag (.ptr (ax::[lo,hi]::ax::[lo,hi]::[.bool true]::ex).length 9)=some (.str x.node)from ah (cs:=[.str x.name,.str x.owner,.int .i64 x.prio,.sl .sh (x.need.map ai),.sl .sh (x.labels.map aI),.sl .sh (x.bS.map aX),.sl .sh (x.bh.map aQ),.str x.key,.int .i64 x.most,.str x.node,.bool x.hold]) (by simp+zetaDelta) rfl)<|.load (lB true 2 ag 3 0 (.agg [lo,hi]) [lo,hi])<|.bE ([.agg ax,.str x.node,.agg [lo,hi]]) (.int .i64 c) f cA.p ⟨rfl,rfl⟩<|.fin ((.ret (.bool (c==(0:Int))),ag)) rfl)
  |false=>
   rw[Bool.false_and]
   exact let ag:Heap:={boxes:=[.sl .sh (s.nodes.map aA),.sl .sh (s.aj.map af),.sl .sh (s.aY.map aP)]::[lo,hi]::[.sl .sh (s.nodes.map aA),.sl .sh (s.aj.map af),.sl .sh (s.aY.map aP)]::[lo,hi]::[.bool false]::(ex++[[AV.str x.name,.str x.owner,.int .i64 x.prio,.sl .sh (x.need.map ai),.sl .sh (x.labels.map aI),.sl .sh (x.bS.map aX),.sl .sh (x.bh.map aQ),.str x.key,.int .i64 x.most,.str x.node,.bool x.hold]]),toks:=tk,loops:=[]:Heap};gG 120 [] trivial (.load (lB false 1 ag 4 0 (.bool false) [.bool false])<|.ff<|.fin ((.ret (.bool false),ag)) rfl)
 obtain⟨r,h1,rfl⟩:=key
 exact gP (ex:=[(af x).cells]) (by rw[show [af x]++[AV.ptr 4 0,.ptr 2 0,.ptr 3 0]=[af x,.ptr 4 0,.ptr 2 0,.ptr 3 0]from rfl,Ub,h1];simp) rfl (hp2 s hl hh (by rw[List.all_cons,he];rfl))
def Im(s:St)(lo hi:AV)(n:Node):Bool:= !n.br&& !(pV s n.name lo hi==0)
theorem RS(s:St)(h:vF s){lo hi:AV}(hl:Fl lo)(hh:Fl hi)(tk:List Nat)(x:Node):
 cv cfg (.call (.c (.func 145 [.ptr 0 0,.ptr 1 0])) [.c (aA x)]) ⟨[(aB s).cells,[lo,hi]],[],[]⟩ (.bool (Im s lo hi x)) ⟨[(aB s).cells,[lo,hi]],[],[]⟩:=by
 haveI:=hl.C
 haveI:=hh.C
 have f:=vB s h.ins h.cap x.name hl hh
 have key:bA cfg a145 [.c IY] (ay [aA x,.ptr 0 0,.ptr 1 0]) ⟨[(aB s).cells,[lo,hi]],[],[]⟩ (fun r=>r=(.ret (.bool (Im s lo hi x)),⟨[(aB s).cells,[lo,hi],(aA x).cells],[],[]⟩)):=by
  unfold Im
  generalize pV s x.name lo hi=c at f⊢
  cases h1:x.br with
  |true=>
   rw[Bool.not_true,Bool.false_and]
   exact gG 120 [] trivial (.no (show(!x.br)=false from by have hh:x.br=true:=(by simp[h1]);simp[hh])<|.fin ((.ret (.bool false),{boxes:=[[.sl .sh (s.nodes.map aA),.sl .sh (s.aj.map af),.sl .sh (s.aY.map aP)],[lo,hi],[.str x.name,.sl .sh (x.cap.map ai),.sl .sh (x.labels.map aI),.sl .sh (x.aV.map bu),.bool x.br]],toks:=[],loops:=[]:Heap})) rfl)
  |false=>
   rw[Bool.not_false,Bool.true_and]
   exact let ag:List AV:=[.sl .sh (s.nodes.map aA),.sl .sh (s.aj.map af),.sl .sh (s.aY.map aP)];gG 120 [] trivial (.yes (show(!x.br)=true from by have hh:¬(x.br=true):=(by simp+zetaDelta [h1]);simp[hh])<|.bE ([.agg ag,.str x.name,.agg [lo,hi]]) (.int .i64 c) f cA.p ⟨rfl,rfl⟩<|.fin ((.ret (.bool (c !=(0:Int))),{boxes:=[ag,[lo,hi],[.str x.name,.sl .sh (x.cap.map ai),.sl .sh (x.labels.map aI),.sl .sh (x.aV.map bu),.bool x.br]],toks:=[],loops:=[]:Heap})) rfl)
 obtain⟨r,h1,rfl⟩:=key
 exact gP (B:=[(aB s).cells,[lo,hi]]) (ex:=[(aA x).cells]) (by rw[show [aA x]++[AV.ptr 0 0,.ptr 1 0]=[aA x,.ptr 0 0,.ptr 1 0]from rfl,QJ,h1];simp) rfl (Vz s hl hh rfl)
theorem N7(s:St)(h:vF s){lo hi:AV}(hl:Fl lo)(hh:Fl hi)(tk:List Nat)(x:Node):
 cv cfg (.call (.c (.func 145 [.ptr 2 0,.ptr 3 0])) [.c (aA x)]) ⟨[(aB s).cells,[lo,hi],(aB s).cells,[lo,hi]],[],[]⟩ (.bool (Im s lo hi x)) ⟨[(aB s).cells,[lo,hi],(aB s).cells,[lo,hi]],[],[]⟩:=by
 haveI:=hl.C
 haveI:=hh.C
 have f:=vB s h.ins h.cap x.name hl hh
 have key:bA cfg a145 [.c IY] (ay [aA x,.ptr 2 0,.ptr 3 0]) ⟨[(aB s).cells,[lo,hi],(aB s).cells,[lo,hi]],[],[]⟩ (fun r=>r=(.ret (.bool (Im s lo hi x)),⟨[(aB s).cells,[lo,hi],(aB s).cells,[lo,hi],(aA x).cells],[],[]⟩)):=by
  unfold Im
  generalize pV s x.name lo hi=c at f⊢
  cases h1:x.br with
  |true=>
   rw[Bool.not_true,Bool.false_and]
   exact let ag:List AV:=[.sl .sh (s.nodes.map aA),.sl .sh (s.aj.map af),.sl .sh (s.aY.map aP)];gG 120 [] trivial (.no (show(!x.br)=false from by have hh:x.br=true:=(by simp+zetaDelta [h1]);simp[hh])<|.fin ((.ret (.bool false),{boxes:=[ag,[lo,hi],ag,[lo,hi],[.str x.name,.sl .sh (x.cap.map ai),.sl .sh (x.labels.map aI),.sl .sh (x.aV.map bu),.bool x.br]],toks:=[],loops:=[]:Heap})) rfl)
  |false=>
   rw[Bool.not_false,Bool.true_and]
   exact let ag:List AV:=[.sl .sh (s.nodes.map aA),.sl .sh (s.aj.map af),.sl .sh (s.aY.map aP)];gG 120 [] trivial (.yes (show(!x.br)=true from by have hh:¬(x.br=true):=(by simp+zetaDelta [h1]);simp[hh])<|.bE ([.agg ag,.str x.name,.agg [lo,hi]]) (.int .i64 c) f cA.p ⟨rfl,rfl⟩<|.fin ((.ret (.bool (c !=(0:Int))),{boxes:=[ag,[lo,hi],ag,[lo,hi],[.str x.name,.sl .sh (x.cap.map ai),.sl .sh (x.labels.map aI),.sl .sh (x.aV.map bu),.bool x.br]],toks:=[],loops:=[]:Heap})) rfl)
 obtain⟨r,h1,rfl⟩:=key
 exact gP (B:=[(aB s).cells,[lo,hi],(aB s).cells,[lo,hi]]) (ex:=[(aA x).cells]) (by rw[show [aA x]++[AV.ptr 2 0,.ptr 3 0]=[aA x,.ptr 2 0,.ptr 3 0]from rfl,QJ,h1];simp) rfl (hp2 s hl hh rfl)
end Go.Aa.T
namespace Go.Aa.T
open Go.Aa Go.Proofs
def sI(s:St)(lo hi:AV)(why:Int)(p:cT):Bool:=
 if why=1 then DA s p else if why=2 then vC (jW s) p.name else if why=3 then DB s p else if why=4 then pV s p.node lo hi==2
 else if why=5 then s.nodes.any (Im s lo hi)&&pV s p.node lo hi==0 else false
def fc(s:St)(lo hi:AV)(why:Int)(p:cT):Bool:= !(p.node==[])&&(!p.hold&&sI s lo hi why p)
def iL(s:St)(lo hi:AV)(why:Int)(l:List cT):List (List UInt8):=(l.filter (fc s lo hi why)).map cT.name
def jo(s:St)(lo hi:AV)(why:Int):List (List UInt8):=iL s lo hi why s.aj
theorem BK{s:St}{lo hi:AV}{why:Int}{p:cT}{l:List cT}(h:fc s lo hi why p=true):iL s lo hi why (p::l)=p.name::iL s lo hi why l:=by simp[iL,List.filter_cons,h]
theorem oM{s:St}{lo hi:AV}{why:Int}{p:cT}{l:List cT}(h:fc s lo hi why p=false):iL s lo hi why (p::l)=iL s lo hi why l:=by simp[iL,List.filter_cons,h]
theorem nT(s:St)(lo hi:AV)(why:Int):(jo s lo hi why).length≤s.aj.length:=by
 unfold jo iL
 rw[List.length_map];exact List.length_filter_le _ _
theorem lQ{s:St}{lo hi:AV}{why:Int}{g:FuncId}{k1 k2 o1 o2:Nat}{c1 c2:List AV}{B1 B2:List (List AV)}(hl:Fl lo)(hh:Fl hi)(h0:lim cfg (.fn 70) [aB s,.int .i64 why,.agg [lo,hi]] Heap.nil=some (.ret (.func g (.ptr k1 o1::c1)),⟨B1,[],[]⟩))
 (h1:lim cfg (.fn 70) [aB s,.int .i64 why,.agg [lo,hi]] ⟨[(aB s).cells,[lo,hi]],[],[]⟩=some (.ret (.func g (.ptr k2 o2::c2)),⟨B2,[],[]⟩))(hk:2≤k2):
 cv cfg (.call (.c (.func 70 [])) [.c (aB s),.c (.int .i64 why),.c (.agg [lo,hi])]) ⟨[(aB s).cells,[lo,hi]],[],[]⟩ (.func g (.ptr k2 o2::c2)) ⟨B2,[],[]⟩:=by
 have hd:=_root_.Go.Aa.qV (cfg:=cfg) (xs:=[aB s,.int .i64 why,.agg [lo,hi]]) h0 (by rfl) h1 (by
  show [aB s,.int .i64 why,.agg [Go.Aa.eW lo,Go.Aa.eW hi]]=_
  rw[hl.Il,hh.Il]) (by
  show(true&&(true&&((Go.Aa.bI lo&&(Go.Aa.bI hi&&true))&&true)))=true
  rw[hl.d0,hh.d0];rfl)
 rw[show bz (.func g (.ptr k2 o2::c2))=.func g (.ptr k2 o2::c2)from rfl]at hd
 rw[show(⟨[(aB s).cells,[lo,hi]],[],[]⟩:Heap).boxes.length=2 from rfl,show(⟨[(aB s).cells,[lo,hi]],[],[]⟩:Heap).toks.length=0 from rfl,HY hk]at hd
 exact hd
theorem RT(s:St){lo hi:AV}(hl:Fl lo)(hh:Fl hi):cv cfg (.call (.c (.func 70 [])) [.c (aB s),.c (.int .i64 1),.c (.agg [lo,hi])]) ⟨[(aB s).cells,[lo,hi]],[],[]⟩ (.func 136 [.ptr 2 0]) ⟨[(aB s).cells,[lo,hi],(aB s).cells,[lo,hi]],[],[]⟩:=by
 have k0:bA cfg a70 [.c DQ] (ay [aB s,.int .i64 1,.agg [lo,hi]]) Heap.nil (fun r=>r=(.ret (.func 136 [.ptr 0 0]),⟨[(aB s).cells,[lo,hi]],[],[]⟩)):=by
  exact gG 120 [] trivial (.tt<|.fin ((.ret (.func 136 [.ptr 0 0]),{boxes:=[[.sl .sh (s.nodes.map aA),.sl .sh (s.aj.map af),.sl .sh (s.aY.map aP)],[lo,hi]],toks:=[],loops:=[]:Heap})) rfl)
 have k1:bA cfg a70 [.c DQ] (ay [aB s,.int .i64 1,.agg [lo,hi]]) ⟨[(aB s).cells,[lo,hi]],[],[]⟩ (fun r=>r=(.ret (.func 136 [.ptr 2 0]),⟨[(aB s).cells,[lo,hi],(aB s).cells,[lo,hi]],[],[]⟩)):=by
  exact let ag:List AV:=[.sl .sh (s.nodes.map aA),.sl .sh (s.aj.map af),.sl .sh (s.aY.map aP)];gG 120 [] trivial (.tt<|.fin ((.ret (.func 136 [.ptr 2 0]),{boxes:=[ag,[lo,hi],ag,[lo,hi]],toks:=[],loops:=[]:Heap})) rfl)
 obtain⟨_,h0,rfl⟩:=k0
 obtain⟨_,h1,rfl⟩:=k1
 exact lQ hl hh (by rw[F2];exact h0) (by rw[F2];exact h1) (by omega)
theorem RU(s:St){lo hi:AV}(hl:Fl lo)(hh:Fl hi)(hb:aq cfg 137 [aB s] (cB .str (jW s))):cv cfg (.call (.c (.func 70 [])) [.c (aB s),.c (.int .i64 2),.c (.agg [lo,hi])]) ⟨[(aB s).cells,[lo,hi]],[],[]⟩ (.func 138 [.ptr 4 0]) ⟨[(aB s).cells,[lo,hi],(aB s).cells,[lo,hi],[.sl .sh ((jW s).map .str)]],[],[]⟩:=by
 generalize jW s=l at hb⊢
 have k0:bA cfg a70 [.c DQ] (ay [aB s,.int .i64 2,.agg [lo,hi]]) Heap.nil (fun r=>r=(.ret (.func 138 [.ptr 2 0]),⟨[(aB s).cells,[lo,hi],[.sl .sh (l.map .str)]],[],[]⟩)):=by
  exact let ag:List AV:=[.sl .sh (s.nodes.map aA),.sl .sh (s.aj.map af),.sl .sh (s.aY.map aP)];gG 120 [] trivial (.ff<|.tt<|.bE ([.agg ag]) (.sl .sh (List.map .str l)) hb ⟨rfl,rfl⟩ fe.p<|.fin ((.ret (.func 138 [.ptr 2 0]),{boxes:=[ag,[lo,hi],[.sl .sh (List.map .str l)]],toks:=[],loops:=[]:Heap})) rfl)
 have k1:bA cfg a70 [.c DQ] (ay [aB s,.int .i64 2,.agg [lo,hi]]) ⟨[(aB s).cells,[lo,hi]],[],[]⟩ (fun r=>r=(.ret (.func 138 [.ptr 4 0]),⟨[(aB s).cells,[lo,hi],(aB s).cells,[lo,hi],[.sl .sh (l.map .str)]],[],[]⟩)):=by
  exact let ag:List AV:=[.sl .sh (s.nodes.map aA),.sl .sh (s.aj.map af),.sl .sh (s.aY.map aP)];gG 120 [] trivial (.ff<|.tt<|.bE ([.agg ag]) (.sl .sh (List.map .str l)) hb ⟨rfl,rfl⟩ fe.p<|.fin ((.ret (.func 138 [.ptr 4 0]),{boxes:=[ag,[lo,hi],ag,[lo,hi],[.sl .sh (List.map .str l)]],toks:=[],loops:=[]:Heap})) rfl)
 obtain⟨_,h0,rfl⟩:=k0
 obtain⟨_,h1,rfl⟩:=k1
 exact lQ hl hh (by rw[F2];exact h0) (by rw[F2];exact h1) (by omega)
theorem RV(s:St){lo hi:AV}(hl:Fl lo)(hh:Fl hi):cv cfg (.call (.c (.func 70 [])) [.c (aB s),.c (.int .i64 3),.c (.agg [lo,hi])]) ⟨[(aB s).cells,[lo,hi]],[],[]⟩ (.func 140 [.ptr 2 0]) ⟨[(aB s).cells,[lo,hi],(aB s).cells,[lo,hi]],[],[]⟩:=by
 have k0:bA cfg a70 [.c DQ] (ay [aB s,.int .i64 3,.agg [lo,hi]]) Heap.nil (fun r=>r=(.ret (.func 140 [.ptr 0 0]),⟨[(aB s).cells,[lo,hi]],[],[]⟩)):=by
  exact gG 120 [] trivial (.ff<|.ff<|.tt<|.fin ((.ret (.func 140 [.ptr 0 0]),{boxes:=[[.sl .sh (s.nodes.map aA),.sl .sh (s.aj.map af),.sl .sh (s.aY.map aP)],[lo,hi]],toks:=[],loops:=[]:Heap})) rfl)
 have k1:bA cfg a70 [.c DQ] (ay [aB s,.int .i64 3,.agg [lo,hi]]) ⟨[(aB s).cells,[lo,hi]],[],[]⟩ (fun r=>r=(.ret (.func 140 [.ptr 2 0]),⟨[(aB s).cells,[lo,hi],(aB s).cells,[lo,hi]],[],[]⟩)):=by
  exact let ag:List AV:=[.sl .sh (s.nodes.map aA),.sl .sh (s.aj.map af),.sl .sh (s.aY.map aP)];gG 120 [] trivial (.ff<|.ff<|.tt<|.fin ((.ret (.func 140 [.ptr 2 0]),{boxes:=[ag,[lo,hi],ag,[lo,hi]],toks:=[],loops:=[]:Heap})) rfl)
 obtain⟨_,h0,rfl⟩:=k0
 obtain⟨_,h1,rfl⟩:=k1
 exact lQ hl hh (by rw[F2];exact h0) (by rw[F2];exact h1) (by omega)
theorem RW(s:St){lo hi:AV}(hl:Fl lo)(hh:Fl hi):cv cfg (.call (.c (.func 70 [])) [.c (aB s),.c (.int .i64 4),.c (.agg [lo,hi])]) ⟨[(aB s).cells,[lo,hi]],[],[]⟩ (.func 143 [.ptr 2 0,.ptr 3 0]) ⟨[(aB s).cells,[lo,hi],(aB s).cells,[lo,hi]],[],[]⟩:=by
 have k0:bA cfg a70 [.c DQ] (ay [aB s,.int .i64 4,.agg [lo,hi]]) Heap.nil (fun r=>r=(.ret (.func 143 [.ptr 0 0,.ptr 1 0]),⟨[(aB s).cells,[lo,hi]],[],[]⟩)):=by
  exact gG 120 [] trivial (.ff<|.ff<|.ff<|.tt<|.fin ((.ret (.func 143 [.ptr 0 0,.ptr 1 0]),{boxes:=[[.sl .sh (s.nodes.map aA),.sl .sh (s.aj.map af),.sl .sh (s.aY.map aP)],[lo,hi]],toks:=[],loops:=[]:Heap})) rfl)
 have k1:bA cfg a70 [.c DQ] (ay [aB s,.int .i64 4,.agg [lo,hi]]) ⟨[(aB s).cells,[lo,hi]],[],[]⟩ (fun r=>r=(.ret (.func 143 [.ptr 2 0,.ptr 3 0]),⟨[(aB s).cells,[lo,hi],(aB s).cells,[lo,hi]],[],[]⟩)):=by
  exact let ag:List AV:=[.sl .sh (s.nodes.map aA),.sl .sh (s.aj.map af),.sl .sh (s.aY.map aP)];gG 120 [] trivial (.ff<|.ff<|.ff<|.tt<|.fin ((.ret (.func 143 [.ptr 2 0,.ptr 3 0]),{boxes:=[ag,[lo,hi],ag,[lo,hi]],toks:=[],loops:=[]:Heap})) rfl)
 obtain⟨_,h0,rfl⟩:=k0
 obtain⟨_,h1,rfl⟩:=k1
 exact lQ hl hh (by rw[F2];exact h0) (by rw[F2];exact h1) (by omega)
theorem RX(s:St)(h:vF s){lo hi:AV}(hl:Fl lo)(hh:Fl hi):cv cfg (.call (.c (.func 70 [])) [.c (aB s),.c (.int .i64 5),.c (.agg [lo,hi])]) ⟨[(aB s).cells,[lo,hi]],[],[]⟩ (.func 146 [.ptr 4 0,.ptr 2 0,.ptr 3 0]) ⟨[(aB s).cells,[lo,hi],(aB s).cells,[lo,hi],[.bool (s.nodes.any (Im s lo hi))]],[],[]⟩:=by
 have d0:=Lw (fun y=>RS s h hl hh [] y) s.nodes h.ins.nodes
 have d1:=Lw (fun y=>N7 s h hl hh [] y) s.nodes h.ins.nodes
 generalize s.nodes.any (Im s lo hi)=m at d0 d1⊢
 have k0:bA cfg a70 [.c DQ] (ay [aB s,.int .i64 5,.agg [lo,hi]]) Heap.nil (fun r=>r=(.ret (.func 146 [.ptr 2 0,.ptr 0 0,.ptr 1 0]),⟨[(aB s).cells,[lo,hi],[.bool m]],[],[]⟩)):=by
  exact let ag:Heap:={boxes:=[(aB s).cells,[lo,hi]],toks:=[],loops:=[]:Heap};gG 120 [] trivial (.ff<|.ff<|.ff<|.ff<|.tt<|.cw d0<|.fin ((.ret (.func 146 [.ptr 2 0,.ptr 0 0,.ptr 1 0]),{boxes:=[[.sl .sh (s.nodes.map aA),.sl .sh (s.aj.map af),.sl .sh (s.aY.map aP)],[lo,hi],[.bool m]],toks:=[],loops:=[]:Heap})) rfl)
 have k1:bA cfg a70 [.c DQ] (ay [aB s,.int .i64 5,.agg [lo,hi]]) ⟨[(aB s).cells,[lo,hi]],[],[]⟩ (fun r=>r=(.ret (.func 146 [.ptr 4 0,.ptr 2 0,.ptr 3 0]),⟨[(aB s).cells,[lo,hi],(aB s).cells,[lo,hi],[.bool m]],[],[]⟩)):=by
  exact let ag:List AV:=[.sl .sh (s.nodes.map aA),.sl .sh (s.aj.map af),.sl .sh (s.aY.map aP)];let ax:Heap:={boxes:=[(aB s).cells,[lo,hi],(aB s).cells,[lo,hi]],toks:=[],loops:=[]:Heap};gG 120 [] trivial (.ff<|.ff<|.ff<|.ff<|.tt<|.cw d1<|.fin ((.ret (.func 146 [.ptr 4 0,.ptr 2 0,.ptr 3 0]),{boxes:=[ag,[lo,hi],ag,[lo,hi],[.bool m]],toks:=[],loops:=[]:Heap})) rfl)
 obtain⟨_,h0,rfl⟩:=k0
 obtain⟨_,h1,rfl⟩:=k1
 exact lQ hl hh (by rw[F2];exact h0) (by rw[F2];exact h1) (by omega)
theorem RY(s:St)(h:vF s){lo hi:AV}(hl:Fl lo)(hh:Fl hi){why:Int}(h1:¬why=1)(h2:¬why=2)(h3:¬why=3)(h4:¬why=4)(h5:¬why=5):aq cfg 70 [aB s,.int .i64 why,.agg [lo,hi]] (.func 147 []):=by
 refine aq.run (F2 _ _) ?_
 exact gG 120 [] trivial (.no (show(why==(1:Int))=false from Bool.eq_false_iff.2 (by simp[h1]))<|.no (show(why==(2:Int))=false from Bool.eq_false_iff.2 (by simp[h2]))<|.no (show(why==(3:Int))=false from Bool.eq_false_iff.2 (by simp[h3]))<|.no (show(why==(4:Int))=false from Bool.eq_false_iff.2 (by simp[h4]))<|.no (show(why==(5:Int))=false from Bool.eq_false_iff.2 (by simp[h5]))<|.fin ((.ret (.func 147 []),{boxes:=[[.sl .sh (s.nodes.map aA),.sl .sh (s.aj.map af),.sl .sh (s.aY.map aP)],[lo,hi]],toks:=[],loops:=[]:Heap})) rfl)
theorem RZ(x:cT):aq cfg 147 [af x] (.bool false):=by
 refine aq.run (Uc _ _) ?_
 exact gG 30 [] trivial (.fin ((.ret (.bool false),{boxes:=[[.str x.name,.str x.owner,.int .i64 x.prio,.sl .sh (x.need.map ai),.sl .sh (x.labels.map aI),.sl .sh (x.bS.map aX),.sl .sh (x.bh.map aQ),.str x.key,.int .i64 x.most,.str x.node,.bool x.hold]],toks:=[],loops:=[]:Heap})) rfl)
theorem HZ(s:St)(hs:s.aj.length≤1000){lo hi:AV}(fv:AV)(why:Int)(Pr:List (List AV)→Prop)(hP:∀ex(x:cT),Pr ex→Pr (ex++[(af x).cells]))
 (hc:∀tk ex(x:cT),Pr ex→x∈s.aj→cv cfg (.call (.c fv) [.c (af x)]) ⟨(aB s).cells::[lo,hi]::ex,tk,[]⟩ (.bool (sI s lo hi why x)) ⟨(aB s).cells::[lo,hi]::ex,tk,[]⟩):
 ∀(post:List cT)(i:Nat)(hd:s.aj.drop i=post)(acc:List (List UInt8))(ha:acc.length≤i)(ex:List (List AV))(he:Pr ex)(T:Env)
 (hT:Has T [(3,.ptr 0 0),(7,fv),(8,cB .str acc),(16,.sl .sh (s.aj.map af)),(17,.int .i64 s.aj.length),(18,.int .i64 i)]),
 bA cfg Sk tK T ⟨(aB s).cells::[lo,hi]::ex,bY .str acc,[]⟩ (aJ (cB .str (acc++iL s lo hi why post))):=by
 intro post
 induction post with
 |nil=>
  intro i hd acc ha ex he T hT
  have hge:=bf hd
  rw[show acc++iL s lo hi why []=acc by simp[iL]]
  exact gG 60 _ hT (.no (dF ((↑i:Int)<(↑s.aj.length:Int)))<|.fin ((.ret (.sl (dS acc) (List.map .str acc)),{boxes:=[.sl .sh (s.nodes.map aA),.sl .sh (s.aj.map af),.sl .sh (s.aY.map aP)]::[lo,hi]::ex,toks:=bY .str acc,loops:=[]:Heap})) rfl)
 |cons x post ih=>
  intro i hd acc ha ex he T hT
  have hlt:=bg hd
  have cq:=aL hd
  have cn:cc 11 (.sl .sh (s.aj.map af)) (.int .i64 (i:Nat))=some (.ref (af x).cells):=bx (f:=af) hd rfl
  have he':=hP ex x he
  have ap:=Kl (acc:=acc) x.name (by omega)
  have no:=ih (i+1) cq acc (by omega) (ex++[(af x).cells]) he'
  have yes:=ih (i+1) cq (acc++[x.name]) (by simp;omega) (ex++[(af x).cells]) he'
  by_cases h1:x.node=[]
  ·have e:fc s lo hi why x=false:=by simp[fc,h1]
   rw[oM e]
   exact let ag:List AV:=[.str x.name,.str x.owner,.int .i64 x.prio,.sl .sh (x.need.map ai),.sl .sh (x.labels.map aI),.sl .sh (x.bS.map aX),.sl .sh (x.bh.map aQ),.str x.key,.int .i64 x.most,.str x.node,.bool x.hold];let ax:List AV:=[.sl .sh (s.nodes.map aA),.sl .sh (s.aj.map af),.sl .sh (s.aY.map aP)];let aS:Heap:={boxes:=ax::[lo,hi]::(ex++[ag]),toks:=bY .str acc,loops:=[]:Heap};let bt:List AV:=[.str [],.str [],.int .i64 0,.sl .full [],.sl .full [],.sl .full [],.sl .full [],.str [],.int .i64 0,.str [],.bool false];gG 160 _ hT (.yes (dT ((↑i:Int)<(↑s.aj.length:Int)))<|.idx cn<|.load (rfl:ak true 11 {boxes:=ax::[lo,hi]::ex,toks:=bY .str acc,loops:=[]:Heap} (.ref ag)=some (.agg ag))<|.store (show aW 11 {boxes:=ax::[lo,hi]::(ex++[bt]),toks:=bY .str acc,loops:=[]:Heap} (.ptr (ax::[lo,hi]::ex).length 0) (.agg ag)=some (aS)from aC (cs:=bt) (cs':=ag) (by simp+zetaDelta) rfl (by simp+zetaDelta [List.set_append]))<|.load (show ak false 1 aS (.ptr (ax::[lo,hi]::ex).length 9)=some (.str x.node)from ah (cs:=ag) (by simp+zetaDelta) rfl)<|.no (show(!x.node==[])=false from by have hh:(x.node==[])=true:=(by simpa using h1);simp[hh])<|.ff<|.ff<|.bin (iI i)<|.aT tK [(3,.ptr 0 0),(7,fv),(8,.sl (dS acc) (List.map .str acc)),(16,.sl .sh (s.aj.map af)),(17,.int .i64 (↑s.aj.length)),(18,.int .i64 (↑(i+1)))] (aS) (fun T hT=>(no T hT)))
  ·cases h2:x.hold with
   |true=>
    have e:fc s lo hi why x=false:=by simp[fc,h2]
    rw[oM e]
    exact let ag:List AV:=[.str x.name,.str x.owner,.int .i64 x.prio,.sl .sh (x.need.map ai),.sl .sh (x.labels.map aI),.sl .sh (x.bS.map aX),.sl .sh (x.bh.map aQ),.str x.key,.int .i64 x.most,.str x.node,.bool x.hold];let ax:List AV:=[.sl .sh (s.nodes.map aA),.sl .sh (s.aj.map af),.sl .sh (s.aY.map aP)];let aS:Heap:={boxes:=ax::[lo,hi]::(ex++[ag]),toks:=bY .str acc,loops:=[]:Heap};let bt:List AV:=[.str [],.str [],.int .i64 0,.sl .full [],.sl .full [],.sl .full [],.sl .full [],.str [],.int .i64 0,.str [],.bool false];gG 160 _ hT (.yes (dT ((↑i:Int)<(↑s.aj.length:Int)))<|.idx cn<|.load (rfl:ak true 11 {boxes:=ax::[lo,hi]::ex,toks:=bY .str acc,loops:=[]:Heap} (.ref ag)=some (.agg ag))<|.store (show aW 11 {boxes:=ax::[lo,hi]::(ex++[bt]),toks:=bY .str acc,loops:=[]:Heap} (.ptr (ax::[lo,hi]::ex).length 0) (.agg ag)=some (aS)from aC (cs:=bt) (cs':=ag) (by simp+zetaDelta) rfl (by simp+zetaDelta [List.set_append]))<|.load (show ak false 1 aS (.ptr (ax::[lo,hi]::ex).length 9)=some (.str x.node)from ah (cs:=ag) (by simp+zetaDelta) rfl)<|.yes (show(!x.node==[])=true from by have hh:¬((x.node==[])=true):=(by simpa using h1);simp[hh])<|.load (show ak false 1 aS (.ptr (ax::[lo,hi]::ex).length 10)=some (.bool x.hold)from ah (cs:=ag) (by simp+zetaDelta) rfl)<|.no (show(!x.hold)=false from by have hh:x.hold=true:=(by omega);simp[hh])<|.ff<|.bin (iI i)<|.aT tK [(3,.ptr 0 0),(7,fv),(8,.sl (dS acc) (List.map .str acc)),(16,.sl .sh (s.aj.map af)),(17,.int .i64 (↑s.aj.length)),(18,.int .i64 (↑(i+1)))] (aS) (fun T hT=>(no T hT)))
   |false=>
    have d:=hc (bY .str acc) (ex++[(af x).cells]) x he' (eo hd)
    cases h3:sI s lo hi why x with
    |true=>
     have e:fc s lo hi why x=true:=by simp[fc,h1,h2,h3]
     rw[BK e,show acc++x.name::iL s lo hi why post=(acc++[x.name])++iL s lo hi why post by simp]
     rw[h3]at d
     exact let ag:List AV:=[.str x.name,.str x.owner,.int .i64 x.prio,.sl .sh (x.need.map ai),.sl .sh (x.labels.map aI),.sl .sh (x.bS.map aX),.sl .sh (x.bh.map aQ),.str x.key,.int .i64 x.most,.str x.node,.bool x.hold];let ax:List AV:=[.sl .sh (s.nodes.map aA),.sl .sh (s.aj.map af),.sl .sh (s.aY.map aP)];let aS:Heap:={boxes:=ax::[lo,hi]::(ex++[ag]),toks:=bY .str acc,loops:=[]:Heap};let bt:List AV:=[.str [],.str [],.int .i64 0,.sl .full [],.sl .full [],.sl .full [],.sl .full [],.str [],.int .i64 0,.str [],.bool false];let bR:Heap:={boxes:=(aB s).cells::[lo,hi]::(ex++[(af x).cells]),toks:=bY .str acc,loops:=[]:Heap};let dm:Heap:={boxes:=ax::[lo,hi]::(ex++[ag]),toks:=bY .str (acc++[x.name]),loops:=[]:Heap};gG 160 _ hT (.yes (dT ((↑i:Int)<(↑s.aj.length:Int)))<|.idx cn<|.load (rfl:ak true 11 {boxes:=ax::[lo,hi]::ex,toks:=bY .str acc,loops:=[]:Heap} (.ref ag)=some (.agg ag))<|.store (show aW 11 {boxes:=ax::[lo,hi]::(ex++[bt]),toks:=bY .str acc,loops:=[]:Heap} (.ptr (ax::[lo,hi]::ex).length 0) (.agg ag)=some (aS)from aC (cs:=bt) (cs':=ag) (by simp+zetaDelta) rfl (by simp+zetaDelta [List.set_append]))<|.load (show ak false 1 aS (.ptr (ax::[lo,hi]::ex).length 9)=some (.str x.node)from ah (cs:=ag) (by simp+zetaDelta) rfl)<|.yes (show(!x.node==[])=true from by have hh:¬((x.node==[])=true):=(by simpa using h1);simp[hh])<|.load (show ak false 1 aS (.ptr (ax::[lo,hi]::ex).length 10)=some (.bool x.hold)from ah (cs:=ag) (by simp+zetaDelta) rfl)<|.yes (show(!x.hold)=true from by have hh:¬(x.hold=true):=(by simp+zetaDelta [h2]);simp[hh])<|.load (show ak true 11 aS (.ptr (ax::[lo,hi]::ex).length 0)=some (.agg ag)from ah (cs:=ag) (by simp+zetaDelta) rfl)<|.cw d<|.tt<|.load (show ak false 1 aS (.ptr (ax::[lo,hi]::ex).length 0)=some (.str x.name)from ah (cs:=ag) (by simp+zetaDelta) rfl)<|.append (show bw 1 16 aS (.sl (dS acc) (List.map .str acc)) (.sl .full [.str x.name])=some ((cB .str (acc++[x.name]),dm))from ap _ _)<|.bin (iI i)<|.aT tK [(3,.ptr 0 0),(7,fv),(8,.sl (dS (acc++[x.name])) (List.map .str (acc++[x.name]))),(16,.sl .sh (s.aj.map af)),(17,.int .i64 (↑s.aj.length)),(18,.int .i64 (↑(i+1)))] (dm) (fun T hT=>(yes T hT)))
    |false=>
     have e:fc s lo hi why x=false:=by simp[fc,h3]
     rw[oM e]
     rw[h3]at d
     exact let ag:List AV:=[.str x.name,.str x.owner,.int .i64 x.prio,.sl .sh (x.need.map ai),.sl .sh (x.labels.map aI),.sl .sh (x.bS.map aX),.sl .sh (x.bh.map aQ),.str x.key,.int .i64 x.most,.str x.node,.bool x.hold];let ax:List AV:=[.sl .sh (s.nodes.map aA),.sl .sh (s.aj.map af),.sl .sh (s.aY.map aP)];let aS:Heap:={boxes:=ax::[lo,hi]::(ex++[ag]),toks:=bY .str acc,loops:=[]:Heap};let bt:List AV:=[.str [],.str [],.int .i64 0,.sl .full [],.sl .full [],.sl .full [],.sl .full [],.str [],.int .i64 0,.str [],.bool false];let bR:Heap:={boxes:=(aB s).cells::[lo,hi]::(ex++[(af x).cells]),toks:=bY .str acc,loops:=[]:Heap};gG 160 _ hT (.yes (dT ((↑i:Int)<(↑s.aj.length:Int)))<|.idx cn<|.load (rfl:ak true 11 {boxes:=ax::[lo,hi]::ex,toks:=bY .str acc,loops:=[]:Heap} (.ref ag)=some (.agg ag))<|.store (show aW 11 {boxes:=ax::[lo,hi]::(ex++[bt]),toks:=bY .str acc,loops:=[]:Heap} (.ptr (ax::[lo,hi]::ex).length 0) (.agg ag)=some (aS)from aC (cs:=bt) (cs':=ag) (by simp+zetaDelta) rfl (by simp+zetaDelta [List.set_append]))<|.load (show ak false 1 aS (.ptr (ax::[lo,hi]::ex).length 9)=some (.str x.node)from ah (cs:=ag) (by simp+zetaDelta) rfl)<|.yes (show(!x.node==[])=true from by have hh:¬((x.node==[])=true):=(by simpa using h1);simp[hh])<|.load (show ak false 1 aS (.ptr (ax::[lo,hi]::ex).length 10)=some (.bool x.hold)from ah (cs:=ag) (by simp+zetaDelta) rfl)<|.yes (show(!x.hold)=true from by have hh:¬(x.hold=true):=(by simp+zetaDelta [h2]);simp[hh])<|.load (show ak true 11 aS (.ptr (ax::[lo,hi]::ex).length 0)=some (.agg ag)from ah (cs:=ag) (by simp+zetaDelta) rfl)<|.cw d<|.ff<|.bin (iI i)<|.aT tK [(3,.ptr 0 0),(7,fv),(8,.sl (dS acc) (List.map .str acc)),(16,.sl .sh (s.aj.map af)),(17,.int .i64 (↑s.aj.length)),(18,.int .i64 (↑(i+1)))] (aS) (fun T hT=>(no T hT)))
def N8(pre ex:List (List AV)):Prop:=∃r,ex=pre++r∧r.all (·.all bI)=true
theorem DC{pre:List (List AV)}(ex:List (List AV))(x:cT)(h:N8 pre ex):N8 pre (ex++[(af x).cells]):=by
 obtain⟨r,rfl,hr⟩:=h
 exact⟨r++[(af x).cells],by simp,by rw[List.all_append,hr];rfl⟩
theorem l8(s:St)(hs:s.aj.length≤1000){lo hi:AV}(hl:Fl lo)(hh:Fl hi){fv:AV}{why:Int}{pre:List (List AV)}(hb:cv cfg (.call (.c (.func 70 [])) [.c (aB s),.c (.int .i64 why),.c (.agg [lo,hi])]) ⟨[(aB s).cells,[lo,hi]],[],[]⟩ fv ⟨(aB s).cells::[lo,hi]::pre,[],[]⟩)
 (hc:∀tk r(x:cT),r.all (·.all bI)=true→x∈s.aj→cv cfg (.call (.c fv) [.c (af x)]) ⟨(aB s).cells::[lo,hi]::(pre++r),tk,[]⟩ (.bool (sI s lo hi why x)) ⟨(aB s).cells::[lo,hi]::(pre++r),tk,[]⟩):
 aq cfg 30 [aB s,.int .i64 why,.agg [lo,hi]] (cB .str (jo s lo hi why)):=by
 refine aq.run (XY _ _) ?_
 have lo':=HZ s hs (lo:=lo) (hi:=hi) fv why (N8 pre) (fun ex x=>DC ex x) (fun tk ex x he hx=>by
  obtain⟨r,rfl,hr⟩:=he
  exact hc tk r x hr hx) s.aj 0 rfl [] (by simp) pre ⟨[],by simp,rfl⟩
 have e:cB AV.str ([]:List (List UInt8))=.sl .full []:=rfl
 rw[e,jI,List.nil_append]at lo'
 rw[show jo s lo hi why=iL s lo hi why s.aj from rfl]
 exact let ag:List AV:=[.sl .sh (s.nodes.map aA),.sl .sh (s.aj.map af),.sl .sh (s.aY.map aP)];let ax:Heap:={boxes:=ag::[lo,hi]::pre,toks:=[],loops:=[]:Heap};gG 120 [] trivial (.cw hb<|.load (lB false 1 ax 0 1 (.sl .sh (s.aj.map af)) ag)<|.len (lM .sh af s.aj)<|.aT tK [(3,.ptr 0 0),(7,fv),(8,.sl .full []),(16,.sl .sh (s.aj.map af)),(17,.int .i64 (↑s.aj.length)),(18,.int .i64 0)] (ax) (fun T hT=>(lo' T hT)))
theorem BL(s:St)(h:vF s){lo hi:AV}(hl:Fl lo)(hh:Fl hi)(why:Int):aq cfg 30 [aB s,.int .i64 why,.agg [lo,hi]] (cB .str (jo s lo hi why)):=by
 have hp:=h.ins.aj
 have hn:=h.nodes
 by_cases h1:why=1
 ·subst h1
  refine l8 s hp hl hh (RT s hl hh) fun tk r x hr hx=> ?_
  rw[show sI s lo hi 1 x=DA s x from rfl]
  exact RM s h hl hh tk r hr x (h.pd x hx)
 by_cases h2:why=2
 ·subst h2
  have hb:=Km s hp (by omega) fun n hn=>(h.nd n hn).labels
  refine l8 s hp hl hh (RU s hl hh hb) fun tk r x hr hx=> ?_
  rw[show sI s lo hi 2 x=vC (jW s) x.name from rfl]
  have:=yq s
  exact RN s h hl hh tk (jW s) (by omega) r hr x
 by_cases h3:why=3
 ·subst h3
  refine l8 s hp hl hh (RV s hl hh) fun tk r x hr hx=> ?_
  rw[show sI s lo hi 3 x=DB s x from rfl]
  exact RP s h hl hh tk r hr x
 by_cases h4:why=4
 ·subst h4
  refine l8 s hp hl hh (RW s hl hh) fun tk r x hr hx=> ?_
  rw[show sI s lo hi 4 x=(pV s x.node lo hi==2)from rfl]
  exact RQ s h hl hh tk r hr x
 by_cases h5:why=5
 ·subst h5
  refine l8 s hp hl hh (RX s h hl hh) fun tk r x hr hx=> ?_
  rw[show sI s lo hi 5 x=(s.nodes.any (Im s lo hi)&&pV s x.node lo hi==0)from rfl]
  exact RR s h hl hh tk _ r hr x
 refine l8 (fv:=.func 147 []) (pre:=[]) s hp hl hh ?_ fun tk r x hr hx=> ?_
 ·have g:=RY s h hl hh h1 h2 h3 h4 h5
  obtain⟨H',hg⟩:=g.ret
  intro T
  have hd:=(fR (g:=70) ⟨_,hg,rfl⟩ [aB s,.int .i64 why,.agg [lo,hi]] (by
   show [aB s,.int .i64 why,.agg [Go.Aa.eW lo,Go.Aa.eW hi]]=_
   rw[hl.Il,hh.Il]) (by
   show(true&&(true&&((Go.Aa.bI lo&&(Go.Aa.bI hi&&true))&&true)))=true
   rw[hl.d0,hh.d0];rfl) rfl rfl ⟨[(aB s).cells,[lo,hi]],[],[]⟩).1
  exact hd T
 ·rw[show sI s lo hi why x=false by simp[sI,h1,h2,h3,h4,h5]]
  exact(fR (RZ x) [af x] rfl rfl rfl rfl _).1
end Go.Aa.T

