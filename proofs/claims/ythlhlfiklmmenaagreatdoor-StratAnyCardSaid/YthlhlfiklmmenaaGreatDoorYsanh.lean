import Derived.Test.YthlhlfiklmmenaaGreatDoorYsang
set_option linter.unusedVariables false
set_option linter.unusedSimpArgs false
set_option maxRecDepth 100000
namespace Go.Aa.T
open Go.Aa Go.Proofs
def _root_.Go.Aa.bN.WO{cfg:mj}{A:aO}{R:cZ×Heap→Prop}{ys:List AV}{g:FuncId}{v:AV}(h:aq cfg g ys v)(s:bN cfg A R)(hx:ys.map cC=ys∧ys.all fH=true:=by exact⟨rfl,rfl⟩)(hv:bz v=v∧bK v=true:=by exact⟨rfl,rfl⟩):bN cfg A R:=.bE ys v h hx hv s
def _root_.Go.Aa.bN.aG{cfg:mj}{A:aO}{R:cZ×Heap→Prop}(xs:List AV){ys:List AV}{g:FuncId}{v:AV}(w:AV)(h:aq cfg g ys v)(s:bN cfg A R)(hx:xs.map cC=ys∧ys.all fH=true:=by exact⟨rfl,rfl⟩)(hv:bz v=w∧bK w=true:=by exact⟨rfl,rfl⟩):bN cfg A R:=.bE xs w h hx hv s
def same(x y:cR):Bool:=decide (y.key=x.key)&&decide (y.val=x.val)
def Ae(l:List cR):Nat→List cR→Int
 |_,[]=>0
 |i,x::post=>if isName x.key&&isName x.val then(if(l.take i).any (same x)then 6 else Ae l (i+1) post)else 3
def No(l:List cR):Int:=if l.length≤8 then Ae l 0 l else 4
theorem Gl(l:List cR)(hn:l.length≤8):∀(post:List cR)(i:Nat)(hd:l.drop i=post)(T:Env)(hT:Has T [(0,.sl .sh (l.map bu)),(3,.int .i64 i)]),
 bA cfg Fs z7 T Heap.nil (aJ (.int .i64 (Ae l i post))):=by
 intro post
 induction post with
 |nil=>
  intro i hd T hT
  have hge:=bf hd
  exact gG 60 _ hT (.len (lM .sh bu l)<|.no (dF ((↑i:Int)<(↑l.length:Int)))<|.fin ((.ret (.int .i64 0),{boxes:=[],toks:=[],loops:=[]:Heap})) rfl)
 |cons x post ih=>
  intro i hd T hT
  have hlt:=bg hd
  have cq:=aL hd
  have hx:=drop_at hd
  have inner:∀(q:List cR)(k:Nat)(hk:(l.take i).drop k=q)(T:Env)(hT:Has T [(0,.sl .sh (l.map bu)),(3,.int .i64 i),(4,.int .i64 k)]),
   bA cfg Fs uW T Heap.nil (aJ (.int .i64 (if q.any (same x)then 6 else Ae l (i+1) post))):=by
   intro q
   induction q with
   |nil=>
    intro k hk T hT
    have hge:i≤k:=by have:=bf hk;simp at this;omega
    exact gG 60 _ hT (.no (dF ((↑k:Int)<(↑i:Int)))<|.bin (iI i)<|.aT z7 [(0,.sl .sh (l.map bu)),(3,.int .i64 (↑(i+1)))] ({boxes:=[],toks:=[],loops:=[]:Heap}) (fun T hT=>(ih (i+1) cq T hT)))
   |cons y q ih2=>
    intro k hk T hT
    have hlt2:k<i:=by have:=bg hk;simp at this;omega
    have QW:=aL hk
    have hy:l[k]?=some y:=by have:=drop_at hk;rw[List.getElem?_take]at this;simpa[hlt2]using this
    exact let ag:Heap:={boxes:=[],toks:=[],loops:=[]:Heap};gG 60 _ hT (.yes (dT ((↑k:Int)<(↑i:Int)))<|.idx (show cc 3 (.sl .sh (l.map bu)) (.int .i64 ↑k)=some (.ref (bu y).cells)from fN hy (by rfl))<|.idx (iR 3 bu hd)<|.split ((y.key==x.key)=true) (fun h1=>.yes (show(y.key==x.key)=true from h1)<|.idx (show cc 3 (.sl .sh (l.map bu)) (.int .i64 ↑k)=some (.ref (bu y).cells)from fN hy (by rfl))<|.idx (iR 3 bu hd)<|.split ((y.val==x.val)=true) (fun h2=>.yes (show(y.val==x.val)=true from h2)<|.fin ((.ret (.int .i64 6),ag)) (by simp only[aJ];grind[same])) (fun h2=>.no (show(y.val==x.val)=false from Bool.eq_false_iff.2 h2)<|.bin (iI k)<|.aT uW [(0,.sl .sh (l.map bu)),(3,.int .i64 ↑i),(4,.int .i64 (↑(k+1):Int))] (ag) (fun T hT=>(ih2 (k+1) QW T hT).to (by grind[same])))) (fun h1=>.no (show(y.key==x.key)=false from Bool.eq_false_iff.2 h1)<|.ff<|.bin (iI k)<|.aT uW [(0,.sl .sh (l.map bu)),(3,.int .i64 ↑i),(4,.int .i64 (↑(k+1):Int))] (ag) (fun T hT=>(ih2 (k+1) QW T hT).to (by grind[same]))))
  have Np:=inner (l.take i) 0 rfl
  exact let ag:Heap:={boxes:=[],toks:=[],loops:=[]:Heap};gG 60 _ hT (.len (lM .sh bu l)<|.yes (dT ((↑i:Int)<(↑l.length:Int)))<|.idx (iR 3 bu hd)<|.aG ([.str x.key]) (.bool (isName x.key)) (show aq cfg 259 [.str x.key] (.bool (isName x.key))from cM _)<|.split (isName x.key=true) (fun h1=>.no (show(!isName x.key)=false from by have hh:isName x.key=true:=h1;simp[hh])<|.idx (iR 3 bu hd)<|.aG ([.str x.val]) (.bool (isName x.val)) (show aq cfg 259 [.str x.val] (.bool (isName x.val))from cM _)<|.split (isName x.val=true) (fun h2=>.no (show(!isName x.val)=false from by have hh:isName x.val=true:=h2;simp[hh])<|.aT uW [(0,.sl .sh (l.map bu)),(3,.int .i64 ↑i),(4,.int .i64 0)] (ag) (fun T hT=>(Np T hT).to (by grind[Ae]))) (fun h2=>.yes (show(!isName x.val)=true from by have hh:¬(isName x.val=true):=h2;simp[hh])<|.fin ((.ret (.int .i64 3),ag)) (by simp only[aJ];grind[Ae]))) (fun h1=>.yes (show(!isName x.key)=true from by have hh:¬(isName x.key=true):=h1;simp[hh])<|.tt<|.fin ((.ret (.int .i64 3),ag)) (by simp only[aJ];grind[Ae])))
theorem JC(l:List cR):aq cfg 262 [.sl .sh (l.map bu)] (.int .i64 (No l)):=by
 refine aq.run (UX _ _) ?_
 have h:=fun hn=>Gl l hn l 0 rfl
 exact let ag:Heap:={boxes:=[],toks:=[],loops:=[]:Heap};gG 60 [] trivial (.len (lM .sh bu l)<|.split ((8:Int)<(↑l.length:Int)) (fun h1=>.yes (dT ((8:Int)<(↑l.length:Int)) h1)<|.fin ((.ret (.int .i64 4),ag)) (by simp only[aJ];grind[No])) (fun h1=>.no (dF ((8:Int)<(↑l.length:Int)) h1)<|.aT z7 [(0,.sl .sh (l.map bu)),(3,.int .i64 0)] (ag) (fun T hT=>(h (by omega) T hT).to (by grind[No]))))
def Gm(x:je):Bool:=(decide (x.key=[])||isName x.key)&&(if x.any then decide (x.val=[])else isName x.val)
def Nq(l:List je):Int:=if l.length≤8 then(if l.all Gm then 0 else 3)else 4
theorem Gn(l:List je)(hn:l.length≤8):∀(post:List je)(i:Nat)(bs:List (List AV))(hd:l.drop i=post)(T:Env)(hT:Has T [(0,.sl .sh (l.map aQ)),(3,.int .i64 i)]),
 bA cfg Ji oC T ⟨bs,[],[]⟩ (aJ (.int .i64 (if post.all Gm then 0 else 3))):=by
 intro post
 induction post with
 |nil=>
  intro i bs hd T hT
  have hge:=bf hd
  exact gG 60 _ hT (.len (lM .sh aQ l)<|.no (dF ((↑i:Int)<(↑l.length:Int)))<|.fin ((.ret (.int .i64 0),{boxes:=bs,toks:=[],loops:=[]:Heap})) rfl)
 |cons x post ih=>
  intro i bs hd T hT
  have hlt:=bg hd
  have cq:=aL hd
  exact let ax:List AV:=[.str x.key,.str x.val,.bool x.any];let ag:Heap:={boxes:=bs++[ax],toks:=[],loops:=[]:Heap};gG 60 _ hT (.len (lM .sh aQ l)<|.yes (dT ((↑i:Int)<(↑l.length:Int)))<|.idx (iR 3 aQ hd)<|.load (rfl:ak true 3 {boxes:=bs,toks:=[],loops:=[]:Heap} (.ref ax)=some (.agg ax))<|.store (show aW 3 {boxes:=bs++[[AV.str [],.str [],.bool false]],toks:=[],loops:=[]:Heap} (.ptr bs.length 0) (.agg ax)=some (ag)from aC (cs:=[.str [],.str [],.bool false]) (cs':=ax) (by simp+zetaDelta) rfl (by simp+zetaDelta [List.set_append]))<|.load (lB false 1 ag bs.length 0 (.str x.key) ax)<|.split ((x.key==[])=true) (fun h1=>.no (show(!x.key==[])=false from by have hh:(x.key==[])=true:=h1;simp[hh])<|.ff<|.load (lB false 1 ag bs.length 2 (.bool x.any) ax)<|.split (x.any=true) (fun h2=>.yes (show(x.any)=true from h2)<|.load (lB false 1 ag bs.length 1 (.str x.val) ax)<|.split ((x.val==[])=true) (fun h3=>.no (show(!x.val==[])=false from by have hh:(x.val==[])=true:=h3;simp[hh])<|.load (lB false 1 ag bs.length 2 (.bool x.any) ax)<|.no (show(!x.any)=false from by have hh:x.any=true:=(by omega);simp[hh])<|.ff<|.bin (iI i)<|.aT oC [(0,.sl .sh (l.map aQ)),(3,.int .i64 (↑(i+1)))] (ag) (fun T hT=>(ih (i+1) (bs++[ax]) cq T hT).to (by grind[Gm]))) (fun h3=>.yes (show(!x.val==[])=true from by have hh:¬((x.val==[])=true):=h3;simp[hh])<|.tt<|.fin ((.ret (.int .i64 3),ag)) (by simp only[aJ];grind[Gm]))) (fun h2=>.no (show(x.any)=false from Bool.eq_false_iff.2 h2)<|.ff<|.load (lB false 1 ag bs.length 2 (.bool x.any) ax)<|.yes (show(!x.any)=true from by have hh:¬(x.any=true):=(by omega);simp[hh])<|.load (lB false 1 ag bs.length 1 (.str x.val) ax)<|.aG ([.str x.val]) (.bool (isName x.val)) (show aq cfg 259 [.str x.val] (.bool (isName x.val))from cM _)<|.split (isName x.val=true) (fun h3=>.no (show(!isName x.val)=false from by have hh:isName x.val=true:=h3;simp[hh])<|.bin (iI i)<|.aT oC [(0,.sl .sh (l.map aQ)),(3,.int .i64 (↑(i+1)))] (ag) (fun T hT=>(ih (i+1) (bs++[ax]) cq T hT).to (by grind[Gm]))) (fun h3=>.yes (show(!isName x.val)=true from by have hh:¬(isName x.val=true):=h3;simp[hh])<|.fin ((.ret (.int .i64 3),ag)) (by simp only[aJ];grind[Gm])))) (fun h1=>.yes (show(!x.key==[])=true from by have hh:¬((x.key==[])=true):=h1;simp[hh])<|.load (lB false 1 ag bs.length 0 (.str x.key) ax)<|.aG ([.str x.key]) (.bool (isName x.key)) (show aq cfg 259 [.str x.key] (.bool (isName x.key))from cM _)<|.split (isName x.key=true) (fun h2=>.no (show(!isName x.key)=false from by have hh:isName x.key=true:=h2;simp[hh])<|.load (lB false 1 ag bs.length 2 (.bool x.any) ax)<|.split (x.any=true) (fun h3=>.yes (show(x.any)=true from h3)<|.load (lB false 1 ag bs.length 1 (.str x.val) ax)<|.split ((x.val==[])=true) (fun h4=>.no (show(!x.val==[])=false from by have hh:(x.val==[])=true:=h4;simp[hh])<|.load (lB false 1 ag bs.length 2 (.bool x.any) ax)<|.no (show(!x.any)=false from by have hh:x.any=true:=(by omega);simp[hh])<|.ff<|.bin (iI i)<|.aT oC [(0,.sl .sh (l.map aQ)),(3,.int .i64 (↑(i+1)))] (ag) (fun T hT=>(ih (i+1) (bs++[ax]) cq T hT).to (by grind[Gm]))) (fun h4=>.yes (show(!x.val==[])=true from by have hh:¬((x.val==[])=true):=h4;simp[hh])<|.tt<|.fin ((.ret (.int .i64 3),ag)) (by simp only[aJ];grind[Gm]))) (fun h3=>.no (show(x.any)=false from Bool.eq_false_iff.2 h3)<|.ff<|.load (lB false 1 ag bs.length 2 (.bool x.any) ax)<|.yes (show(!x.any)=true from by have hh:¬(x.any=true):=(by omega);simp[hh])<|.load (lB false 1 ag bs.length 1 (.str x.val) ax)<|.aG ([.str x.val]) (.bool (isName x.val)) (show aq cfg 259 [.str x.val] (.bool (isName x.val))from cM _)<|.split (isName x.val=true) (fun h4=>.no (show(!isName x.val)=false from by have hh:isName x.val=true:=h4;simp[hh])<|.bin (iI i)<|.aT oC [(0,.sl .sh (l.map aQ)),(3,.int .i64 (↑(i+1)))] (ag) (fun T hT=>(ih (i+1) (bs++[ax]) cq T hT).to (by grind[Gm]))) (fun h4=>.yes (show(!isName x.val)=true from by have hh:¬(isName x.val=true):=h4;simp[hh])<|.fin ((.ret (.int .i64 3),ag)) (by simp only[aJ];grind[Gm])))) (fun h2=>.yes (show(!isName x.key)=true from by have hh:¬(isName x.key=true):=h2;simp[hh])<|.tt<|.tt<|.fin ((.ret (.int .i64 3),ag)) (by simp only[aJ];grind[Gm]))))
theorem JD(l:List je):aq cfg 264 [.sl .sh (l.map aQ)] (.int .i64 (Nq l)):=by
 refine aq.run (UZ _ _) ?_
 have h:=fun hn=>Gn l hn l 0 [] rfl
 exact let ag:Heap:={boxes:=[],toks:=[],loops:=[]:Heap};gG 60 [] trivial (.len (lM .sh aQ l)<|.split ((8:Int)<(↑l.length:Int)) (fun h1=>.yes (dT ((8:Int)<(↑l.length:Int)) h1)<|.fin ((.ret (.int .i64 4),ag)) (by simp only[aJ];grind[Nq])) (fun h1=>.no (dF ((8:Int)<(↑l.length:Int)) h1)<|.aT oC [(0,.sl .sh (l.map aQ)),(3,.int .i64 0)] (ag) (fun T hT=>(h (by omega) T hT).to (by grind[Nq]))))
end Go.Aa.T
namespace Go.Aa.T
open Go.Aa Go.Proofs
def kM:List UInt8:=[97,98,99,100,101,102,103,104,105,106,107,108,109,110,111,112,113,114,115,116,117,118,119,120,121,122,48,49,50,51,52,53,54,55,56,57]
theorem Gp(c:UInt8):kM.contains c=gh c:=by
 have:∀n:Fin 256,kM.contains (UInt8.ofNat n.val)=gh (UInt8.ofNat n.val):=by decide+kernel
 have h:=this ⟨c.toNat,c.toNat_lt⟩
 simpa using h
theorem dropWhile_nil{p:UInt8→Bool}:∀{l:List UInt8},l.dropWhile p=[]↔l.all p=true
 |[]=>by simp
 |c::l=>by
  by_cases h:p c=true
  ·simp[List.dropWhile_cons,h,dropWhile_nil]
  ·simp[List.dropWhile_cons,h]
theorem Gq(s:List UInt8):Lib.trimS s kM=[]↔s.all gh=true:=by
 have hp:(fun c=>kM.contains c)=gh:=funext Gp
 unfold Lib.trimS Lib.trimLeftS Lib.trimRightS
 rw[hp,dropWhile_nil,List.all_reverse]
 constructor
 ·intro h
  have e:=List.takeWhile_append_dropWhile (p:=gh) (l:=s.reverse)
  have:s.reverse.all gh=true:=by
   rw[←e,List.all_append,h,Bool.and_true]
   exact List.all_takeWhile
  rwa [List.all_reverse]at this
 ·intro h
  have:s.reverse.dropWhile gh=[]:=dropWhile_nil.2 (by rwa [List.all_reverse])
  rw[this];rfl
theorem Gr(s:List UInt8)(h:s.length≤9223372036854775807):aq cfg 279 [.str s,.str kM] (.str (Lib.trimS s kM)):=by
 refine aq.of (H':=Heap.nil) ?_
 rw[nB (g:=xh) rfl rfl]
 have:xh [.str s,.str kM] Heap.nil=some (.str (Lib.trimS s kM),Heap.nil):=if_pos ⟨h,by decide,by decide⟩
 rw[this];rfl
theorem xu(s:List UInt8):aq cfg 235 [.str s] (.bool (isName s)):=by
 refine aq.run (UQ _ _) ?_
 have ht:=Gq s
 exact let ag:Heap:={boxes:=[],toks:=[],loops:=[]:Heap};gG 60 [] trivial (.len (show dA true (.str s)=some (.int .i64 (↑s.length))from dw _)<|.split ((1:Int)≤(↑s.length:Int)) (fun h1=>.yes (dT ((1:Int)≤(↑s.length:Int)) h1)<|.len (show dA true (.str s)=some (.int .i64 (↑s.length))from dw _)<|.split ((↑s.length:Int)≤(12:Int)) (fun h2=>.yes (dT ((↑s.length:Int)≤(12:Int)) h2)<|.aG ([.str s,.str [(97:UInt8),(98:UInt8),(99:UInt8),(100:UInt8),(101:UInt8),(102:UInt8),(103:UInt8),(104:UInt8),(105:UInt8),(106:UInt8),(107:UInt8),(108:UInt8),(109:UInt8),(110:UInt8),(111:UInt8),(112:UInt8),(113:UInt8),(114:UInt8),(115:UInt8),(116:UInt8),(117:UInt8),(118:UInt8),(119:UInt8),(120:UInt8),(121:UInt8),(122:UInt8),(48:UInt8),(49:UInt8),(50:UInt8),(51:UInt8),(52:UInt8),(53:UInt8),(54:UInt8),(55:UInt8),(56:UInt8),(57:UInt8)]]) (.str (Lib.trimS s kM)) (show aq cfg 279 [.str s,.str kM] (.str (Lib.trimS s kM))from Gr _ (by omega))<|.fin ((.ret (.bool (Lib.trimS s kM==[])),ag)) (by simp only[aJ];grind[isName])) (fun h2=>.no (dF ((↑s.length:Int)≤(12:Int)) h2)<|.fin ((.ret (.bool false),ag)) (by simp only[aJ];grind[isName]))) (fun h1=>.no (dF ((1:Int)≤(↑s.length:Int)) h1)<|.ff<|.fin ((.ret (.bool false),ag)) (by simp only[aJ];grind[isName])))
end Go.Aa.T
namespace Go.Aa.T
open Go.Aa Go.Proofs
structure fL where
 key:List UInt8
 val:List UInt8
structure Term where
 op:Int
 key:List UInt8
 val:List UInt8
def fL.cells(t:fL):List AV:=[.str t.key,.str t.val]
def Term.cells(t:Term):List AV:=[.int .i64 t.op,.str t.key,.str t.val]
def aI(t:fL):AV:=.agg t.cells
def aX(t:Term):AV:=.agg t.cells
def kS(l:List fL):Bool:=decide (l.length≤20)&&rW (fun t=>(t.key,t.val)) l
def jQ(l:List Term):Bool:=decide (l.length≤20)&&rW (fun t=>(t.key,t.val)) l
theorem xw{l:List fL}(h:kS l=true):l.length≤20:=by
 simp only[kS,Bool.and_eq_true,decide_eq_true_eq]at h;exact h.1
theorem xx{l:List Term}(h:jQ l=true):l.length≤20:=by
 simp only[jQ,Bool.and_eq_true,decide_eq_true_eq]at h;exact h.1
theorem CN(l:List fL)(hn:l.length≤20):∀(post:List fL)(i:Nat)(hd:l.drop i=post)(T:Env)(hT:Has T [(0,.sl .sh (l.map aI)),(3,.int .i64 i)]),
 bA cfg I4 zM T Heap.nil (aJ (.bool (rW (fun t=>(t.key,t.val)) post))):=by
 intro post
 induction post with
 |nil=>
  intro i hd T hT
  have hge:=bf hd
  exact gG 60 _ hT (.len (lM .sh aI l)<|.no (dF ((↑i:Int)<(↑l.length:Int)))<|.fin ((.ret (.bool true),{boxes:=[],toks:=[],loops:=[]:Heap})) rfl)
 |cons x post ih=>
  intro i hd T hT
  have hlt:=bg hd
  have cq:=aL hd
  exact let ag:Heap:={boxes:=[],toks:=[],loops:=[]:Heap};gG 60 _ hT (.len (lM .sh aI l)<|.yes (dT ((↑i:Int)<(↑l.length:Int)))<|.idx (iR 2 aI hd)<|.len (show dA true (.str x.key)=some (.int .i64 (↑x.key.length))from dw _)<|.split ((50:Int)<(↑x.key.length:Int)) (fun h1=>.yes (dT ((50:Int)<(↑x.key.length:Int)) h1)<|.tt<|.fin ((.ret (.bool false),ag)) (by simp only[aJ];grind[rW])) (fun h1=>.no (dF ((50:Int)<(↑x.key.length:Int)) h1)<|.idx (iR 2 aI hd)<|.len (show dA true (.str x.val)=some (.int .i64 (↑x.val.length))from dw _)<|.split ((50:Int)<(↑x.val.length:Int)) (fun h2=>.yes (dT ((50:Int)<(↑x.val.length:Int)) h2)<|.fin ((.ret (.bool false),ag)) (by simp only[aJ];grind[rW])) (fun h2=>.no (dF ((50:Int)<(↑x.val.length:Int)) h2)<|.bin (iI i)<|.aT zM [(0,.sl .sh (l.map aI)),(3,.int .i64 (↑(i+1)))] (ag) (fun T hT=>(ih (i+1) cq T hT).to (by grind[rW])))))
theorem CO(l:List Term)(hn:l.length≤20):∀(post:List Term)(i:Nat)(hd:l.drop i=post)(T:Env)(hT:Has T [(0,.sl .sh (l.map aX)),(3,.int .i64 i)]),
 bA cfg I3 zK T Heap.nil (aJ (.bool (rW (fun t=>(t.key,t.val)) post))):=by
 intro post
 induction post with
 |nil=>
  intro i hd T hT
  have hge:=bf hd
  exact gG 60 _ hT (.len (lM .sh aX l)<|.no (dF ((↑i:Int)<(↑l.length:Int)))<|.fin ((.ret (.bool true),{boxes:=[],toks:=[],loops:=[]:Heap})) rfl)
 |cons x post ih=>
  intro i hd T hT
  have hlt:=bg hd
  have cq:=aL hd
  exact let ag:Heap:={boxes:=[],toks:=[],loops:=[]:Heap};gG 60 _ hT (.len (lM .sh aX l)<|.yes (dT ((↑i:Int)<(↑l.length:Int)))<|.idx (iR 3 aX hd)<|.len (show dA true (.str x.key)=some (.int .i64 (↑x.key.length))from dw _)<|.split ((50:Int)<(↑x.key.length:Int)) (fun h1=>.yes (dT ((50:Int)<(↑x.key.length:Int)) h1)<|.tt<|.fin ((.ret (.bool false),ag)) (by simp only[aJ];grind[rW])) (fun h1=>.no (dF ((50:Int)<(↑x.key.length:Int)) h1)<|.idx (iR 3 aX hd)<|.len (show dA true (.str x.val)=some (.int .i64 (↑x.val.length))from dw _)<|.split ((50:Int)<(↑x.val.length:Int)) (fun h2=>.yes (dT ((50:Int)<(↑x.val.length:Int)) h2)<|.fin ((.ret (.bool false),ag)) (by simp only[aJ];grind[rW])) (fun h2=>.no (dF ((50:Int)<(↑x.val.length:Int)) h2)<|.bin (iI i)<|.aT zK [(0,.sl .sh (l.map aX)),(3,.int .i64 (↑(i+1)))] (ag) (fun T hT=>(ih (i+1) cq T hT).to (by grind[rW])))))
theorem xy(l:List fL):aq cfg 204 [.sl .sh (l.map aI)] (.bool (kS l)):=by
 refine aq.run (Ur _ _) ?_
 have h:=fun hn=>CN l hn l 0 rfl
 exact let ag:Heap:={boxes:=[],toks:=[],loops:=[]:Heap};gG 60 [] trivial (.len (lM .sh aI l)<|.split ((20:Int)<(↑l.length:Int)) (fun h1=>.yes (dT ((20:Int)<(↑l.length:Int)) h1)<|.fin ((.ret (.bool false),ag)) (by simp only[aJ];grind[kS])) (fun h1=>.no (dF ((20:Int)<(↑l.length:Int)) h1)<|.aT zM [(0,.sl .sh (l.map aI)),(3,.int .i64 0)] (ag) (fun T hT=>(h (by omega) T hT).to (by grind[kS]))))
theorem xz(l:List Term):aq cfg 202 [.sl .sh (l.map aX)] (.bool (jQ l)):=by
 refine aq.run (Up _ _) ?_
 have h:=fun hn=>CO l hn l 0 rfl
 exact let ag:Heap:={boxes:=[],toks:=[],loops:=[]:Heap};gG 60 [] trivial (.len (lM .sh aX l)<|.split ((20:Int)<(↑l.length:Int)) (fun h1=>.yes (dT ((20:Int)<(↑l.length:Int)) h1)<|.fin ((.ret (.bool false),ag)) (by simp only[aJ];grind[jQ])) (fun h1=>.no (dF ((20:Int)<(↑l.length:Int)) h1)<|.aT zK [(0,.sl .sh (l.map aX)),(3,.int .i64 0)] (ag) (fun T hT=>(h (by omega) T hT).to (by grind[jQ]))))
theorem Gs(l:List fL)(hn:l.length≤20):∀(post:List fL)(i:Nat)(acc:List AV)(hd:l.drop i=post)(ha:acc.length=i)(hl:cE 2 acc=true)(T:Env)(hT:Has T [(0,.sl .sh (l.map aI)),(3,aZ Heap.nil acc),(4,.int .i64 i)]),
 bA cfg I1 zH T (cu Heap.nil acc) (aJ (aZ Heap.nil (acc++post.map aI))):=by
 intro post
 induction post with
 |nil=>
  intro i acc hd ha hl T hT
  have hge:=bf hd
  exact gG 60 _ hT (.len (lM .sh aI l)<|.no (dF ((↑i:Int)<(↑l.length:Int)))<|.fin ((.ret (aU (aU (aU (aU (aU (aU (bJ T [(0,.sl .sh (l.map aI)),(3,aZ Heap.nil acc),(4,.int .i64 ↑i)]) (some 5) (ev (bJ T [(0,.sl .sh (l.map aI)),(3,aZ Heap.nil acc),(4,.int .i64 ↑i)]) (.t 4))) (some 6) (ev (aU (bJ T [(0,.sl .sh (l.map aI)),(3,aZ Heap.nil acc),(4,.int .i64 ↑i)]) (some 5) (ev (bJ T [(0,.sl .sh (l.map aI)),(3,aZ Heap.nil acc),(4,.int .i64 ↑i)]) (.t 4))) (.t 0))) (some 7) (.int .i64 (↑l.length))) (some 8) (.bool (decide ((↑i:Int)<(↑l.length:Int))))) (some 25) (ev (aU (aU (aU (aU (bJ T [(0,.sl .sh (l.map aI)),(3,aZ Heap.nil acc),(4,.int .i64 ↑i)]) (some 5) (ev (bJ T [(0,.sl .sh (l.map aI)),(3,aZ Heap.nil acc),(4,.int .i64 ↑i)]) (.t 4))) (some 6) (ev (aU (bJ T [(0,.sl .sh (l.map aI)),(3,aZ Heap.nil acc),(4,.int .i64 ↑i)]) (some 5) (ev (bJ T [(0,.sl .sh (l.map aI)),(3,aZ Heap.nil acc),(4,.int .i64 ↑i)]) (.t 4))) (.t 0))) (some 7) (.int .i64 (↑l.length))) (some 8) (.bool (decide ((↑i:Int)<(↑l.length:Int))))) (.t 3))) (some 2) (ev (aU (aU (aU (aU (aU (bJ T [(0,.sl .sh (l.map aI)),(3,aZ Heap.nil acc),(4,.int .i64 ↑i)]) (some 5) (ev (bJ T [(0,.sl .sh (l.map aI)),(3,aZ Heap.nil acc),(4,.int .i64 ↑i)]) (.t 4))) (some 6) (ev (aU (bJ T [(0,.sl .sh (l.map aI)),(3,aZ Heap.nil acc),(4,.int .i64 ↑i)]) (some 5) (ev (bJ T [(0,.sl .sh (l.map aI)),(3,aZ Heap.nil acc),(4,.int .i64 ↑i)]) (.t 4))) (.t 0))) (some 7) (.int .i64 (↑l.length))) (some 8) (.bool (decide ((↑i:Int)<(↑l.length:Int))))) (some 25) (ev (aU (aU (aU (aU (bJ T [(0,.sl .sh (l.map aI)),(3,aZ Heap.nil acc),(4,.int .i64 ↑i)]) (some 5) (ev (bJ T [(0,.sl .sh (l.map aI)),(3,aZ Heap.nil acc),(4,.int .i64 ↑i)]) (.t 4))) (some 6) (ev (aU (bJ T [(0,.sl .sh (l.map aI)),(3,aZ Heap.nil acc),(4,.int .i64 ↑i)]) (some 5) (ev (bJ T [(0,.sl .sh (l.map aI)),(3,aZ Heap.nil acc),(4,.int .i64 ↑i)]) (.t 4))) (.t 0))) (some 7) (.int .i64 (↑l.length))) (some 8) (.bool (decide ((↑i:Int)<(↑l.length:Int))))) (.t 3))) (.t 25)) 2),cu Heap.nil acc)) (by simp only[aJ,List.map_nil,List.append_nil];rfl))
 |cons x post ih=>
  intro i acc hd ha hl T hT
  have hlt:=bg hd
  have cq:=aL hd
  exact gG 60 _ hT (.len (lM .sh aI l)<|.yes (dT ((↑i:Int)<(↑l.length:Int)) (by simp;omega))<|.idx (iR 2 aI hd)<|.load (rfl:ak false 1 (cu Heap.nil acc) (.ref [.str x.key])=some (.str x.key))<|.idx (iR 2 aI hd)<|.load (rfl:ak false 1 (cu Heap.nil acc) (.ref [.str x.val])=some (.str x.val))<|.append (show bw 2 32 (cu Heap.nil acc) (aZ Heap.nil acc) (.sl .full [.agg [.str x.key,.str x.val]])=some ((aZ Heap.nil (acc++[AV.agg [.str x.key,.str x.val]]),cu Heap.nil (acc++[AV.agg [.str x.key,.str x.val]])))from eF (by omega) hl (by rfl) (by rfl))<|.bin (iI i)<|.aT zH [(0,.sl .sh (l.map aI)),(3,aZ Heap.nil (acc++[AV.agg [.str x.key,.str x.val]])),(4,.int .i64 (↑(i+1)))] (cu Heap.nil (acc++[AV.agg [.str x.key,.str x.val]])) (fun T hT=>(ih (i+1) (acc++[AV.agg [.str x.key,.str x.val]]) cq (by simp;omega) (by exact e9 (by assumption) rfl) T hT).to (by simp[aI,fL.cells])))
theorem Gt(l:List Term)(hn:l.length≤20):∀(post:List Term)(i:Nat)(acc:List AV)(hd:l.drop i=post)(ha:acc.length=i)(hl:cE 3 acc=true)(T:Env)(hT:Has T [(0,.sl .sh (l.map aX)),(3,aZ Heap.nil acc),(4,.int .i64 i)]),
 bA cfg a198 zI T (cu Heap.nil acc) (aJ (aZ Heap.nil (acc++post.map aX))):=by
 intro post
 induction post with
 |nil=>
  intro i acc hd ha hl T hT
  have hge:=bf hd
  exact gG 60 _ hT (.len (lM .sh aX l)<|.no (dF ((↑i:Int)<(↑l.length:Int)))<|.fin ((.ret (aU (aU (aU (aU (aU (aU (bJ T [(0,.sl .sh (l.map aX)),(3,aZ Heap.nil acc),(4,.int .i64 ↑i)]) (some 5) (ev (bJ T [(0,.sl .sh (l.map aX)),(3,aZ Heap.nil acc),(4,.int .i64 ↑i)]) (.t 4))) (some 6) (ev (aU (bJ T [(0,.sl .sh (l.map aX)),(3,aZ Heap.nil acc),(4,.int .i64 ↑i)]) (some 5) (ev (bJ T [(0,.sl .sh (l.map aX)),(3,aZ Heap.nil acc),(4,.int .i64 ↑i)]) (.t 4))) (.t 0))) (some 7) (.int .i64 (↑l.length))) (some 8) (.bool (decide ((↑i:Int)<(↑l.length:Int))))) (some 30) (ev (aU (aU (aU (aU (bJ T [(0,.sl .sh (l.map aX)),(3,aZ Heap.nil acc),(4,.int .i64 ↑i)]) (some 5) (ev (bJ T [(0,.sl .sh (l.map aX)),(3,aZ Heap.nil acc),(4,.int .i64 ↑i)]) (.t 4))) (some 6) (ev (aU (bJ T [(0,.sl .sh (l.map aX)),(3,aZ Heap.nil acc),(4,.int .i64 ↑i)]) (some 5) (ev (bJ T [(0,.sl .sh (l.map aX)),(3,aZ Heap.nil acc),(4,.int .i64 ↑i)]) (.t 4))) (.t 0))) (some 7) (.int .i64 (↑l.length))) (some 8) (.bool (decide ((↑i:Int)<(↑l.length:Int))))) (.t 3))) (some 2) (ev (aU (aU (aU (aU (aU (bJ T [(0,.sl .sh (l.map aX)),(3,aZ Heap.nil acc),(4,.int .i64 ↑i)]) (some 5) (ev (bJ T [(0,.sl .sh (l.map aX)),(3,aZ Heap.nil acc),(4,.int .i64 ↑i)]) (.t 4))) (some 6) (ev (aU (bJ T [(0,.sl .sh (l.map aX)),(3,aZ Heap.nil acc),(4,.int .i64 ↑i)]) (some 5) (ev (bJ T [(0,.sl .sh (l.map aX)),(3,aZ Heap.nil acc),(4,.int .i64 ↑i)]) (.t 4))) (.t 0))) (some 7) (.int .i64 (↑l.length))) (some 8) (.bool (decide ((↑i:Int)<(↑l.length:Int))))) (some 30) (ev (aU (aU (aU (aU (bJ T [(0,.sl .sh (l.map aX)),(3,aZ Heap.nil acc),(4,.int .i64 ↑i)]) (some 5) (ev (bJ T [(0,.sl .sh (l.map aX)),(3,aZ Heap.nil acc),(4,.int .i64 ↑i)]) (.t 4))) (some 6) (ev (aU (bJ T [(0,.sl .sh (l.map aX)),(3,aZ Heap.nil acc),(4,.int .i64 ↑i)]) (some 5) (ev (bJ T [(0,.sl .sh (l.map aX)),(3,aZ Heap.nil acc),(4,.int .i64 ↑i)]) (.t 4))) (.t 0))) (some 7) (.int .i64 (↑l.length))) (some 8) (.bool (decide ((↑i:Int)<(↑l.length:Int))))) (.t 3))) (.t 30)) 2),cu Heap.nil acc)) (by simp only[aJ,List.map_nil,List.append_nil];rfl))
 |cons x post ih=>
  intro i acc hd ha hl T hT
  have hlt:=bg hd
  have cq:=aL hd
  exact gG 60 _ hT (.len (lM .sh aX l)<|.yes (dT ((↑i:Int)<(↑l.length:Int)) (by simp;omega))<|.idx (iR 3 aX hd)<|.load (rfl:ak false 1 (cu Heap.nil acc) (.ref [.int .i64 x.op])=some (.int .i64 x.op))<|.idx (iR 3 aX hd)<|.load (rfl:ak false 1 (cu Heap.nil acc) (.ref [.str x.key])=some (.str x.key))<|.idx (iR 3 aX hd)<|.load (rfl:ak false 1 (cu Heap.nil acc) (.ref [.str x.val])=some (.str x.val))<|.append (show bw 3 40 (cu Heap.nil acc) (aZ Heap.nil acc) (.sl .full [.agg [.int .i64 x.op,.str x.key,.str x.val]])=some ((aZ Heap.nil (acc++[AV.agg [.int .i64 x.op,.str x.key,.str x.val]]),cu Heap.nil (acc++[AV.agg [.int .i64 x.op,.str x.key,.str x.val]])))from eF (by omega) hl (by rfl) (by rfl))<|.bin (iI i)<|.aT zI [(0,.sl .sh (l.map aX)),(3,aZ Heap.nil (acc++[AV.agg [.int .i64 x.op,.str x.key,.str x.val]])),(4,.int .i64 (↑(i+1)))] (cu Heap.nil (acc++[AV.agg [.int .i64 x.op,.str x.key,.str x.val]])) (fun T hT=>(ih (i+1) (acc++[AV.agg [.int .i64 x.op,.str x.key,.str x.val]]) cq (by simp;omega) (by exact e9 (by assumption) rfl) T hT).to (by simp[aX,Term.cells])))
theorem Bk(l:List fL)(hn:l.length≤20):aq cfg 197 [.sl .sh (l.map aI)] (aZ Heap.nil (l.map aI)):=by
 refine aq.run (Um _ _) ?_
 have h:=Gs l hn l 0 [] rfl rfl rfl
 exact gG 60 [] trivial (.aT zH [(0,.sl .sh (l.map aI)),(3,.sl .full []),(4,.int .i64 0)] ({boxes:=[],toks:=[],loops:=[]:Heap}) (fun T hT=>(h T hT)))
theorem Bl(l:List Term)(hn:l.length≤20):aq cfg 198 [.sl .sh (l.map aX)] (aZ Heap.nil (l.map aX)):=by
 refine aq.run (Un _ _) ?_
 have h:=Gt l hn l 0 [] rfl rfl rfl
 exact gG 60 [] trivial (.aT zI [(0,.sl .sh (l.map aX)),(3,.sl .full []),(4,.int .i64 0)] ({boxes:=[],toks:=[],loops:=[]:Heap}) (fun T hT=>(h T hT)))
def xA(s:List fL)(i:Nat)(x:fL):Bool:=match i with
 |0=>false
 |j+1=>match s[j]? with
  |some p=>Op.bytesLess x.key p.key||x.key==p.key
  |none=>false
def sw(s:List fL):Nat→List fL→Int
 |_,[]=>0
 |i,x::post=>if isName x.key&&isName x.val then(if xA s i x then 13 else sw s (i+1) post)else 3
def Bm(s:List fL):Int:=if s.length≤8 then sw s 0 s else 4
theorem pg{i:Nat}(h:i<9223372036854775807):cG .sub (.int .i64 ((i+1:Nat):Int)) (.int .i64 1)=some (.int .i64 (i:Int)):=by
 rw[FM (by omega) (by omega)];congr 2;omega
theorem u7(l:List fL)(hn:l.length≤8):∀(post:List fL)(i:Nat)(hd:l.drop i=post)(T:Env)(hT:Has T [(0,.sl .sh (l.map aI)),(3,.int .i64 i)]),
 bA cfg Jg uV T Heap.nil (aJ (.int .i64 (sw l i post))):=by
 intro post
 induction post with
 |nil=>
  intro i hd T hT
  have hge:=bf hd
  exact gG 60 _ hT (.len (lM .sh aI l)<|.no (dF ((↑i:Int)<(↑l.length:Int)))<|.fin ((.ret (.int .i64 0),{boxes:=[],toks:=[],loops:=[]:Heap})) rfl)
 |cons x post ih=>
  intro i hd T hT
  have hlt:=bg hd
  have cq:=aL hd
  cases i with
  |zero=>exact let ag:Heap:={boxes:=[],toks:=[],loops:=[]:Heap};gG 60 _ hT (.len (lM .sh aI l)<|.yes (dT ((↑(0:Nat):Int)<(↑l.length:Int)))<|.idx (show cc 2 (.sl .sh (l.map aI)) (.int .i64 (↑(0:Nat):Int))=some (.ref (aI x).cells)from bx hd (by rfl))<|.aG ([.str x.key]) (.bool (isName x.key)) (show aq cfg 259 [.str x.key] (.bool (isName x.key))from cM _)<|.split (isName x.key=true) (fun h1=>.no (show(!isName x.key)=false from by have hh:isName x.key=true:=h1;simp[hh])<|.idx (show cc 2 (.sl .sh (l.map aI)) (.int .i64 (↑(0:Nat):Int))=some (.ref (aI x).cells)from bx hd (by rfl))<|.aG ([.str x.val]) (.bool (isName x.val)) (show aq cfg 259 [.str x.val] (.bool (isName x.val))from cM _)<|.split (isName x.val=true) (fun h2=>.no (show(!isName x.val)=false from by have hh:isName x.val=true:=h2;simp[hh])<|.ff<|.ff<|.bin (show cG .add (.int .i64 (↑(0:Nat):Int)) (.int .i64 1)=some (.int .i64 (↑(0+1):Int))from fK (by omega))<|.aT uV [(0,.sl .sh (l.map aI)),(3,.int .i64 (↑(0+1):Int))] (ag) (fun T hT=>(ih (0+1) cq T hT).to (by grind[sw,xA]))) (fun h2=>.yes (show(!isName x.val)=true from by have hh:¬(isName x.val=true):=h2;simp[hh])<|.fin ((.ret (.int .i64 3),ag)) (by simp only[aJ];grind[sw,xA]))) (fun h1=>.yes (show(!isName x.key)=true from by have hh:¬(isName x.key=true):=h1;simp[hh])<|.tt<|.fin ((.ret (.int .i64 3),ag)) (by simp only[aJ];grind[sw,xA])))
  |succ j=>
   obtain⟨p,hp⟩:∃p,l[j]?=some p:=⟨l[j],List.getElem?_eq_getElem (by omega)⟩
   exact let ag:Heap:={boxes:=[],toks:=[],loops:=[]:Heap};gG 60 _ hT (.len (lM .sh aI l)<|.yes (dT ((↑(j+1):Int)<(↑l.length:Int)))<|.idx (show cc 2 (.sl .sh (l.map aI)) (.int .i64 (↑(j+1):Int))=some (.ref (aI x).cells)from bx hd (by rfl))<|.aG ([.str x.key]) (.bool (isName x.key)) (show aq cfg 259 [.str x.key] (.bool (isName x.key))from cM _)<|.split (isName x.key=true) (fun h1=>.no (show(!isName x.key)=false from by have hh:isName x.key=true:=h1;simp[hh])<|.idx (show cc 2 (.sl .sh (l.map aI)) (.int .i64 (↑(j+1):Int))=some (.ref (aI x).cells)from bx hd (by rfl))<|.aG ([.str x.val]) (.bool (isName x.val)) (show aq cfg 259 [.str x.val] (.bool (isName x.val))from cM _)<|.split (isName x.val=true) (fun h2=>.no (show(!isName x.val)=false from by have hh:isName x.val=true:=h2;simp[hh])<|.yes (dT ((0:Int)<(↑(j+1):Int)))<|.idx (show cc 2 (.sl .sh (l.map aI)) (.int .i64 (↑(j+1):Int))=some (.ref (aI x).cells)from bx hd (by rfl))<|.bin (show cG .sub (.int .i64 (↑(j+1):Int)) (.int .i64 1)=some (.int .i64 ↑j)from pg (by omega))<|.idx (show cc 2 (.sl .sh (l.map aI)) (.int .i64 ↑j)=some (.ref (aI p).cells)from fN hp (by rfl))<|.split ((Op.bytesLess x.key p.key||x.key==p.key)=true) (fun h3=>.yes (show(Op.bytesLess x.key p.key||x.key==p.key)=true from h3)<|.fin ((.ret (.int .i64 13),ag)) (by simp only[aJ];grind[sw,xA])) (fun h3=>.no (show(Op.bytesLess x.key p.key||x.key==p.key)=false from Bool.eq_false_iff.2 h3)<|.bin (show cG .add (.int .i64 (↑(j+1):Int)) (.int .i64 1)=some (.int .i64 (↑(j+1+1):Int))from fK (by omega))<|.aT uV [(0,.sl .sh (l.map aI)),(3,.int .i64 (↑(j+1+1):Int))] (ag) (fun T hT=>(ih (j+1+1) cq T hT).to (by grind[sw,xA])))) (fun h2=>.yes (show(!isName x.val)=true from by have hh:¬(isName x.val=true):=h2;simp[hh])<|.fin ((.ret (.int .i64 3),ag)) (by simp only[aJ];grind[sw,xA]))) (fun h1=>.yes (show(!isName x.key)=true from by have hh:¬(isName x.key=true):=h1;simp[hh])<|.tt<|.fin ((.ret (.int .i64 3),ag)) (by simp only[aJ];grind[sw,xA])))
theorem Bn(l:List fL):aq cfg 261 [.sl .sh (l.map aI)] (.int .i64 (Bm l)):=by
 refine aq.run (UW _ _) ?_
 have h:=fun hn=>u7 l hn l 0 rfl
 exact let ag:Heap:={boxes:=[],toks:=[],loops:=[]:Heap};gG 60 [] trivial (.len (lM .sh aI l)<|.split ((8:Int)<(↑l.length:Int)) (fun h1=>.yes (dT ((8:Int)<(↑l.length:Int)) h1)<|.fin ((.ret (.int .i64 4),ag)) (by simp only[aJ];grind[Bm])) (fun h1=>.no (dF ((8:Int)<(↑l.length:Int)) h1)<|.aT uV [(0,.sl .sh (l.map aI)),(3,.int .i64 0)] (ag) (fun T hT=>(h (by omega) T hT).to (by grind[Bm]))))
def pn(x:Term):Bool:=if x.op≤2 then isName x.val else decide (x.val=[])
def sx:List Term→Int
 |[]=>0
 |x::post=>if 1≤x.op∧x.op≤4 then(if isName x.key&&pn x then sx post else 3)else 1
def Ij(l:List Term):Int:=if l.length≤8 then sx l else 4
theorem u9(l:List Term)(hn:l.length≤8):∀(post:List Term)(i:Nat)(bs:List (List AV))(hd:l.drop i=post)(T:Env)(hT:Has T [(0,.sl .sh (l.map aX)),(3,.int .i64 i)]),
 bA cfg Jh uX T ⟨bs,[],[]⟩ (aJ (.int .i64 (sx post))):=by
 intro post
 induction post with
 |nil=>
  intro i bs hd T hT
  have hge:=bf hd
  exact gG 60 _ hT (.len (lM .sh aX l)<|.no (dF ((↑i:Int)<(↑l.length:Int)))<|.fin ((.ret (.int .i64 0),{boxes:=bs,toks:=[],loops:=[]:Heap})) rfl)
 |cons x post ih=>
  intro i bs hd T hT
  have hlt:=bg hd
  have cq:=aL hd
  exact let ax:List AV:=[.int .i64 x.op,.str x.key,.str x.val];let ag:Heap:={boxes:=bs++[ax],toks:=[],loops:=[]:Heap};gG 60 _ hT (.len (lM .sh aX l)<|.yes (dT ((↑i:Int)<(↑l.length:Int)))<|.idx (iR 3 aX hd)<|.load (rfl:ak true 3 {boxes:=bs,toks:=[],loops:=[]:Heap} (.ref ax)=some (.agg ax))<|.store (show aW 3 {boxes:=bs++[[AV.int .i64 0,.str [],.str []]],toks:=[],loops:=[]:Heap} (.ptr bs.length 0) (.agg ax)=some (ag)from aC (cs:=[.int .i64 0,.str [],.str []]) (cs':=ax) (by simp+zetaDelta) rfl (by simp+zetaDelta [List.set_append]))<|.load (lB false 1 ag bs.length 0 (.int .i64 x.op) ax)<|.split (x.op<(1:Int)) (fun h1=>.yes (dT (x.op<(1:Int)) h1)<|.tt<|.fin ((.ret (.int .i64 1),ag)) (by simp only[aJ];grind[sx,pn])) (fun h1=>.no (dF (x.op<(1:Int)) h1)<|.load (lB false 1 ag bs.length 0 (.int .i64 x.op) ax)<|.split ((4:Int)<x.op) (fun h2=>.yes (dT ((4:Int)<x.op) h2)<|.fin ((.ret (.int .i64 1),ag)) (by simp only[aJ];grind[sx,pn])) (fun h2=>.no (dF ((4:Int)<x.op) h2)<|.load (lB false 1 ag bs.length 1 (.str x.key) ax)<|.aG ([.str x.key]) (.bool (isName x.key)) (show aq cfg 259 [.str x.key] (.bool (isName x.key))from cM _)<|.split (isName x.key=true) (fun h3=>.no (show(!isName x.key)=false from by have hh:isName x.key=true:=h3;simp[hh])<|.load (lB false 1 ag bs.length 0 (.int .i64 x.op) ax)<|.split (x.op≤(2:Int)) (fun h4=>.yes (dT (x.op≤(2:Int)) h4)<|.load (lB false 1 ag bs.length 2 (.str x.val) ax)<|.aG ([.str x.val]) (.bool (isName x.val)) (show aq cfg 259 [.str x.val] (.bool (isName x.val))from cM _)<|.split (isName x.val=true) (fun h5=>.no (show(!isName x.val)=false from by have hh:isName x.val=true:=h5;simp[hh])<|.load (lB false 1 ag bs.length 0 (.int .i64 x.op) ax)<|.no (dF ((3:Int)≤x.op))<|.ff<|.bin (iI i)<|.aT uX [(0,.sl .sh (l.map aX)),(3,.int .i64 (↑(i+1)))] (ag) (fun T hT=>(ih (i+1) (bs++[ax]) cq T hT).to (by grind[sx,pn]))) (fun h5=>.yes (show(!isName x.val)=true from by have hh:¬(isName x.val=true):=h5;simp[hh])<|.tt<|.fin ((.ret (.int .i64 3),ag)) (by simp only[aJ];grind[sx,pn]))) (fun h4=>.no (dF (x.op≤(2:Int)) h4)<|.ff<|.load (lB false 1 ag bs.length 0 (.int .i64 x.op) ax)<|.yes (dT ((3:Int)≤x.op))<|.load (lB false 1 ag bs.length 2 (.str x.val) ax)<|.split ((x.val==[])=true) (fun h5=>.no (show(!x.val==[])=false from by have hh:(x.val==[])=true:=h5;simp[hh])<|.bin (iI i)<|.aT uX [(0,.sl .sh (l.map aX)),(3,.int .i64 (↑(i+1)))] (ag) (fun T hT=>(ih (i+1) (bs++[ax]) cq T hT).to (by grind[sx,pn]))) (fun h5=>.yes (show(!x.val==[])=true from by have hh:¬((x.val==[])=true):=h5;simp[hh])<|.fin ((.ret (.int .i64 3),ag)) (by simp only[aJ];grind[sx,pn])))) (fun h3=>.yes (show(!isName x.key)=true from by have hh:¬(isName x.key=true):=h3;simp[hh])<|.tt<|.tt<|.fin ((.ret (.int .i64 3),ag)) (by simp only[aJ];grind[sx,pn])))))
theorem Bo(l:List Term):aq cfg 263 [.sl .sh (l.map aX)] (.int .i64 (Ij l)):=by
 refine aq.run (UY _ _) ?_
 have h:=fun hn=>u9 l hn l 0 [] rfl
 exact let ag:Heap:={boxes:=[],toks:=[],loops:=[]:Heap};gG 60 [] trivial (.len (lM .sh aX l)<|.split ((8:Int)<(↑l.length:Int)) (fun h1=>.yes (dT ((8:Int)<(↑l.length:Int)) h1)<|.fin ((.ret (.int .i64 4),ag)) (by simp only[aJ];grind[Ij])) (fun h1=>.no (dF ((8:Int)<(↑l.length:Int)) h1)<|.aT uX [(0,.sl .sh (l.map aX)),(3,.int .i64 0)] (ag) (fun T hT=>(h (by omega) T hT).to (by grind[Ij]))))
end Go.Aa.T
namespace Go.Aa.T
open Go.Aa Go.Proofs
def oD(s:List fL)(k:List UInt8):Option (List UInt8):=(s.find? (fun p=>p.key==k)).map (·.val)
def xB(o:Option (List UInt8)):AV:=.tuple [.str (o.getD []),.bool o.isSome]
theorem Gu(s:List fL)(k:List UInt8)(hn:s.length<9223372036854775807):∀(post:List fL)(i:Nat)(bs:List (List AV))(hd:s.drop i=post)(T:Env)
 (hT:Has T [(1,.str k),(8,.sl .sh (s.map aI)),(9,.int .i64 s.length),(10,.int .i64 i)]),
 bA cfg I9 zX T ⟨bs,[],[]⟩ (aJ (xB (oD post k))):=by
 intro post
 induction post with
 |nil=>
  intro i bs hd T hT
  have hge:=bf hd
  exact gG 60 _ hT (.no (dF ((↑i:Int)<(↑s.length:Int)))<|.fin ((.ret (.tuple [.str [],.bool false]),{boxes:=bs,toks:=[],loops:=[]:Heap})) rfl)
 |cons x post ih=>
  intro i bs hd T hT
  have hlt:=bg hd
  have cq:=aL hd
  exact let ag:Heap:={boxes:=bs++[[AV.str x.key,.str x.val]],toks:=[],loops:=[]:Heap};gG 60 _ hT (.yes (dT ((↑i:Int)<(↑s.length:Int)))<|.idx (iR 2 aI hd)<|.load (rfl:ak true 2 {boxes:=bs,toks:=[],loops:=[]:Heap} (.ref [.str x.key,.str x.val])=some (.agg [.str x.key,.str x.val]))<|.store (show aW 2 {boxes:=bs++[[AV.str [],.str []]],toks:=[],loops:=[]:Heap} (.ptr bs.length 0) (.agg [.str x.key,.str x.val])=some (ag)from aC (cs:=[.str [],.str []]) (cs':=[.str x.key,.str x.val]) (by simp+zetaDelta) rfl (by simp+zetaDelta [List.set_append]))<|.load (lB false 1 ag bs.length 0 (.str x.key) [.str x.key,.str x.val])<|.split ((x.key==k)=true) (fun h1=>.yes (show(x.key==k)=true from h1)<|.load (lB false 1 ag bs.length 1 (.str x.val) [.str x.key,.str x.val])<|.fin ((.ret (.tuple [.str x.val,.bool true]),ag)) (by simp only[aJ];grind[oD,xB])) (fun h1=>.no (show(x.key==k)=false from Bool.eq_false_iff.2 h1)<|.bin (iI i)<|.aT zX [(1,.str k),(8,.sl .sh (s.map aI)),(9,.int .i64 (↑s.length)),(10,.int .i64 (↑(i+1)))] (ag) (fun T hT=>(ih (i+1) (bs++[[AV.str x.key,.str x.val]]) cq T hT).to (by grind[oD,xB]))))
theorem pR(s:List fL)(k:List UInt8)(hn:s.length<9223372036854775807):aq cfg 223 [.sl .sh (s.map aI),.str k] (xB (oD s k)):=by
 refine aq.run (UK _ _) ?_
 have h:=Gu s k hn s 0 [] rfl
 exact gG 60 [] trivial (.len (lM .sh aI s)<|.aT zX [(1,.str k),(8,.sl .sh (s.map aI)),(9,.int .i64 (↑s.length)),(10,.int .i64 0)] ({boxes:=[],toks:=[],loops:=[]:Heap}) (fun T hT=>(h T hT)))
def bF{α:Type}(p:α→Bool):List α→Nat→Int
 |[],_=> -1
 |x::l,i=>if p x then i else bF p l (i+1)
theorem gV{α:Type}(p:α→Bool):∀(l:List α)(i:Nat),decide (0≤bF p l i)=l.any p
 |[],i=>rfl
 |x::l,i=>by
  unfold bF
  by_cases h:p x=true
  ·simp[h]
  ·have:=gV p l (i+1);simp[h,this]
end Go.Aa.T
namespace Go.Aa.T
open Go.Aa Go.Proofs
theorem Gv{l:List cR}(h:u6 l=true):l.length≤20:=by
 simp only[u6,Bool.and_eq_true,decide_eq_true_eq]at h;exact h.1
theorem Gw{l:List je}(h:su l=true):l.length≤20:=by
 simp only[su,Bool.and_eq_true,decide_eq_true_eq]at h;exact h.1
theorem Gx{nb nt:Nat}:∀{x:AV},bI x=true→yA nb nt x=true
 |.undef,h=>by cases h
 |.bool _,_=>rfl
 |.int ..,_=>rfl
 |.bQ _,_=>rfl
 |.nan,_=>rfl
 |.str _,_=>rfl
 |.sl .sh _,_=>rfl
 |.sl .full _,_=>rfl
 |.sl .nil _,h=>by cases h
 |.sl (.own _) _,h=>by cases h
 |.agg _,h=>by cases h
 |.tuple _,h=>by cases h
 |.ptr ..,h=>by cases h
 |.ref _,_=>rfl
 |.dO,_=>rfl
 |.func ..,h=>by cases h
 |.nilFunc,_=>rfl
 |.iface ..,h=>by cases h
 |.nilIface,_=>rfl
 |.cY ..,h=>by cases h
 |.yield _,h=>by cases h
theorem lY{nb nt:Nat}{x:AV}(h:bI x=true):rZ nb nt x=true:=by
 have:=Gx (nb:=nb) (nt:=nt) h
 cases x<;>first|exact this|cases h
theorem lH{bs ex:List (List AV)}{ts:List Nat}{b:Bool}(hb:bs.all (·.all bI)=true):de bs.length ts.length (.bool b) ⟨bs++ex,ts,[]⟩=⟨bs,ts,[]⟩:=by
 have hin:∀nb nt,bs.all (·.all (rZ nb nt))=true:=fun nb nt=>by
  rw[List.all_eq_true]at hb⊢
  intro l hl
  have:=hb l hl
  rw[List.all_eq_true]at this⊢
  exact fun x hx=>lY (this x hx)
 unfold de
 simp only[List.take_left',hin,List.all_nil,Bool.true_and,Bool.and_true]
 simp[within,rZ,Og,yA]
section
variable{H:Heap}{k:Nat}{p:cR→Bool}
end
def eS(x:je)(t:cR):Bool:=(x.key==[]||x.key==t.key)&&(x.any||x.val==t.val)
end Go.Aa.T
namespace Go.Aa.T
open Go.Aa Go.Proofs
theorem CP(s:List fL)(k:List UInt8)(hn:s.length<9223372036854775807):∀(post:List fL)(i:Nat)(hd:s.drop i=post)(T:Env)(hT:Has T [(0,.sl .sh (s.map aI)),(1,.str k),(6,.int .i64 i)]),
 bA cfg I8 zV T Heap.nil (aJ (xB (oD post k))):=by
 intro post
 induction post with
 |nil=>
  intro i hd T hT
  have hge:=bf hd
  exact gG 60 _ hT (.len (lM .sh aI s)<|.no (dF ((↑i:Int)<(↑s.length:Int)))<|.fin ((.ret (.tuple [.str [],.bool false]),{boxes:=[],toks:=[],loops:=[]:Heap})) rfl)
 |cons x post ih=>
  intro i hd T hT
  have hlt:=bg hd
  have cq:=aL hd
  exact let ag:Heap:={boxes:=[],toks:=[],loops:=[]:Heap};gG 60 _ hT (.len (lM .sh aI s)<|.yes (dT ((↑i:Int)<(↑s.length:Int)))<|.idx (iR 2 aI hd)<|.split ((x.key==k)=true) (fun h1=>.yes (show(x.key==k)=true from h1)<|.idx (iR 2 aI hd)<|.fin ((.ret (.tuple [.str x.val,.bool true]),ag)) (by simp only[aJ];grind[oD,xB])) (fun h1=>.no (show(x.key==k)=false from Bool.eq_false_iff.2 h1)<|.bin (iI i)<|.aT zV [(0,.sl .sh (s.map aI)),(1,.str k),(6,.int .i64 (↑(i+1)))] (ag) (fun T hT=>(ih (i+1) cq T hT).to (by grind[oD,xB]))))
theorem Nr(s:List fL)(k:List UInt8)(hn:s.length<9223372036854775807):aq cfg 219 [.sl .sh (s.map aI),.str k] (xB (oD s k)):=by
 refine aq.run (UH _ _) ?_
 have h:=CP s k hn s 0 rfl
 exact gG 60 [] trivial (.aT zV [(0,.sl .sh (s.map aI)),(1,.str k),(6,.int .i64 0)] ({boxes:=[],toks:=[],loops:=[]:Heap}) (fun T hT=>(h T hT)))
end Go.Aa.T
namespace Go.Aa.T
open Go.Aa Go.Proofs
structure aH where
 name:List UInt8
 n:Int
def ai(x:aH):AV:=.agg [.str x.name,.int .i64 x.n]
instance(x:aH):qO (ai x):=⟨rfl,rfl⟩
theorem Ll{l:List aH}:cE 2 (l.map ai)=true:=dY fun _=>rfl
def kT(s:List aH)(i:Nat)(x:aH):Bool:=match i with
 |0=>false
 |j+1=>match s[j]? with
  |some p=>Op.bytesLess x.name p.name||x.name==p.name
  |none=>false
def jl(s:List aH):Nat→List aH→Int
 |_,[]=>0
 |i,x::post=>if isName x.name then(if x.n≤0 then 1 else if kT s i x then 13 else jl s (i+1) post)else 3
def gW(s:List aH):Int:=if s.length≤8 then jl s 0 s else 4
theorem ve(l:List aH)(hn:l.length≤8):∀(post:List aH)(i:Nat)(hd:l.drop i=post)(T:Env)(hT:Has T [(0,.sl .sh (l.map ai)),(3,.int .i64 i)]),
 bA cfg Jf uU T Heap.nil (aJ (.int .i64 (jl l i post))):=by
 intro post
 induction post with
 |nil=>
  intro i hd T hT
  have hge:=bf hd
  exact gG 60 _ hT (.len (lM .sh ai l)<|.no (dF ((↑i:Int)<(↑l.length:Int)))<|.fin ((.ret (.int .i64 0),{boxes:=[],toks:=[],loops:=[]:Heap})) rfl)
 |cons x post ih=>
  intro i hd T hT
  have hlt:=bg hd
  have cq:=aL hd
  cases i with
  |zero=>exact let ag:Heap:={boxes:=[],toks:=[],loops:=[]:Heap};gG 60 _ hT (.len (lM .sh ai l)<|.yes (dT ((↑(0:Nat):Int)<(↑l.length:Int)))<|.idx (show cc 2 (.sl .sh (l.map ai)) (.int .i64 (↑(0:Nat):Int))=some (.ref (ai x).cells)from bx hd (by rfl))<|.aG ([.str x.name]) (.bool (isName x.name)) (show aq cfg 259 [.str x.name] (.bool (isName x.name))from cM _)<|.split (isName x.name=true) (fun h1=>.no (show(!isName x.name)=false from by have hh:isName x.name=true:=h1;simp[hh])<|.idx (show cc 2 (.sl .sh (l.map ai)) (.int .i64 (↑(0:Nat):Int))=some (.ref (ai x).cells)from bx hd (by rfl))<|.split (x.n≤(0:Int)) (fun h2=>.yes (dT (x.n≤(0:Int)) h2)<|.fin ((.ret (.int .i64 1),ag)) (by simp only[aJ];grind[jl,kT])) (fun h2=>.no (dF (x.n≤(0:Int)) h2)<|.ff<|.ff<|.bin (show cG .add (.int .i64 (↑(0:Nat):Int)) (.int .i64 1)=some (.int .i64 (↑(0+1):Int))from fK (by omega))<|.aT uU [(0,.sl .sh (l.map ai)),(3,.int .i64 (↑(0+1):Int))] (ag) (fun T hT=>(ih (0+1) cq T hT).to (by grind[jl,kT])))) (fun h1=>.yes (show(!isName x.name)=true from by have hh:¬(isName x.name=true):=h1;simp[hh])<|.fin ((.ret (.int .i64 3),ag)) (by simp only[aJ];grind[jl,kT])))
  |succ j=>
   obtain⟨p,hp⟩:∃p,l[j]?=some p:=⟨l[j],List.getElem?_eq_getElem (by omega)⟩
   exact let ag:Heap:={boxes:=[],toks:=[],loops:=[]:Heap};gG 60 _ hT (.len (lM .sh ai l)<|.yes (dT ((↑(j+1):Int)<(↑l.length:Int)))<|.idx (show cc 2 (.sl .sh (l.map ai)) (.int .i64 (↑(j+1):Int))=some (.ref (ai x).cells)from bx hd (by rfl))<|.aG ([.str x.name]) (.bool (isName x.name)) (show aq cfg 259 [.str x.name] (.bool (isName x.name))from cM _)<|.split (isName x.name=true) (fun h1=>.no (show(!isName x.name)=false from by have hh:isName x.name=true:=h1;simp[hh])<|.idx (show cc 2 (.sl .sh (l.map ai)) (.int .i64 (↑(j+1):Int))=some (.ref (ai x).cells)from bx hd (by rfl))<|.split (x.n≤(0:Int)) (fun h2=>.yes (dT (x.n≤(0:Int)) h2)<|.fin ((.ret (.int .i64 1),ag)) (by simp only[aJ];grind[jl,kT])) (fun h2=>.no (dF (x.n≤(0:Int)) h2)<|.yes (dT ((0:Int)<(↑(j+1):Int)))<|.idx (show cc 2 (.sl .sh (l.map ai)) (.int .i64 (↑(j+1):Int))=some (.ref (ai x).cells)from bx hd (by rfl))<|.bin (show cG .sub (.int .i64 (↑(j+1):Int)) (.int .i64 1)=some (.int .i64 ↑j)from pg (by omega))<|.idx (show cc 2 (.sl .sh (l.map ai)) (.int .i64 ↑j)=some (.ref (ai p).cells)from fN hp (by rfl))<|.split ((Op.bytesLess x.name p.name||x.name==p.name)=true) (fun h3=>.yes (show(Op.bytesLess x.name p.name||x.name==p.name)=true from h3)<|.fin ((.ret (.int .i64 13),ag)) (by simp only[aJ];grind[jl,kT])) (fun h3=>.no (show(Op.bytesLess x.name p.name||x.name==p.name)=false from Bool.eq_false_iff.2 h3)<|.bin (show cG .add (.int .i64 (↑(j+1):Int)) (.int .i64 1)=some (.int .i64 (↑(j+1+1):Int))from fK (by omega))<|.aT uU [(0,.sl .sh (l.map ai)),(3,.int .i64 (↑(j+1+1):Int))] (ag) (fun T hT=>(ih (j+1+1) cq T hT).to (by grind[jl,kT]))))) (fun h1=>.yes (show(!isName x.name)=true from by have hh:¬(isName x.name=true):=h1;simp[hh])<|.fin ((.ret (.int .i64 3),ag)) (by simp only[aJ];grind[jl,kT])))
theorem pS(l:List aH):aq cfg 260 [.sl .sh (l.map ai)] (.int .i64 (gW l)):=by
 refine aq.run (UU _ _) ?_
 have h:=fun hn=>ve l hn l 0 rfl
 exact let ag:Heap:={boxes:=[],toks:=[],loops:=[]:Heap};gG 60 [] trivial (.len (lM .sh ai l)<|.split ((8:Int)<(↑l.length:Int)) (fun h1=>.yes (dT ((8:Int)<(↑l.length:Int)) h1)<|.fin ((.ret (.int .i64 4),ag)) (by simp only[aJ];grind[gW])) (fun h1=>.no (dF ((8:Int)<(↑l.length:Int)) h1)<|.aT uU [(0,.sl .sh (l.map ai)),(3,.int .i64 0)] (ag) (fun T hT=>(h (by omega) T hT).to (by grind[gW]))))
theorem Gy(l:List aH)(hn:l.length≤8):∀(post:List aH)(i:Nat)(bs:List (List AV))(hd:l.drop i=post)(T:Env)(hT:Has T [(0,.sl .sh (l.map ai)),(8,.sl .sh (l.map ai)),(9,.int .i64 l.length),(10,.int .i64 i)]),
 bA cfg Jd uS T ⟨bs,[],[]⟩ (aJ (.int .i64 (jl l i post))):=by
 intro post
 induction post with
 |nil=>
  intro i bs hd T hT
  have hge:=bf hd
  exact gG 60 _ hT (.no (dF ((↑i:Int)<(↑l.length:Int)))<|.fin ((.ret (.int .i64 0),{boxes:=bs,toks:=[],loops:=[]:Heap})) rfl)
 |cons x post ih=>
  intro i bs hd T hT
  have hlt:=bg hd
  have cq:=aL hd
  cases i with
  |zero=>exact let ag:Heap:={boxes:=bs++[[AV.str x.name,.int .i64 x.n]],toks:=[],loops:=[]:Heap};gG 60 _ hT (.yes (dT ((↑(0:Nat):Int)<(↑l.length:Int)))<|.idx (show cc 2 (.sl .sh (l.map ai)) (.int .i64 (↑(0:Nat):Int))=some (.ref (ai x).cells)from bx hd (by rfl))<|.load (rfl:ak true 2 {boxes:=bs,toks:=[],loops:=[]:Heap} (.ref [.str x.name,.int .i64 x.n])=some (.agg [.str x.name,.int .i64 x.n]))<|.store (show aW 2 {boxes:=bs++[[AV.str [],.int .i64 0]],toks:=[],loops:=[]:Heap} (.ptr bs.length 0) (.agg [.str x.name,.int .i64 x.n])=some (ag)from aC (cs:=[.str [],.int .i64 0]) (cs':=[.str x.name,.int .i64 x.n]) (by simp+zetaDelta) rfl (by simp+zetaDelta [List.set_append]))<|.load (lB false 1 ag bs.length 0 (.str x.name) [.str x.name,.int .i64 x.n])<|.aG ([.str x.name]) (.bool (isName x.name)) (show aq cfg 235 [.str x.name] (.bool (isName x.name))from xu _)<|.split (isName x.name=true) (fun h1=>.no (show(!isName x.name)=false from by have hh:isName x.name=true:=h1;simp[hh])<|.load (lB false 1 ag bs.length 1 (.int .i64 x.n) [.str x.name,.int .i64 x.n])<|.split (x.n≤(0:Int)) (fun h2=>.yes (dT (x.n≤(0:Int)) h2)<|.fin ((.ret (.int .i64 1),ag)) (by simp only[aJ];grind[jl,kT])) (fun h2=>.no (dF (x.n≤(0:Int)) h2)<|.ff<|.ff<|.bin (show cG .add (.int .i64 (↑(0:Nat):Int)) (.int .i64 1)=some (.int .i64 (↑(0+1):Int))from fK (by omega))<|.aT uS [(0,.sl .sh (l.map ai)),(8,.sl .sh (l.map ai)),(9,.int .i64 (↑l.length)),(10,.int .i64 (↑(0+1):Int))] (ag) (fun T hT=>(ih (0+1) (bs++[[AV.str x.name,.int .i64 x.n]]) cq T hT).to (by grind[jl,kT])))) (fun h1=>.yes (show(!isName x.name)=true from by have hh:¬(isName x.name=true):=h1;simp[hh])<|.fin ((.ret (.int .i64 3),ag)) (by simp only[aJ];grind[jl,kT])))
  |succ j=>
   obtain⟨p,hp⟩:∃p,l[j]?=some p:=⟨l[j],List.getElem?_eq_getElem (by omega)⟩
   exact let ag:Heap:={boxes:=bs++[[AV.str x.name,.int .i64 x.n]],toks:=[],loops:=[]:Heap};gG 60 _ hT (.yes (dT ((↑(j+1):Int)<(↑l.length:Int)))<|.idx (show cc 2 (.sl .sh (l.map ai)) (.int .i64 (↑(j+1):Int))=some (.ref (ai x).cells)from bx hd (by rfl))<|.load (rfl:ak true 2 {boxes:=bs,toks:=[],loops:=[]:Heap} (.ref [.str x.name,.int .i64 x.n])=some (.agg [.str x.name,.int .i64 x.n]))<|.store (show aW 2 {boxes:=bs++[[AV.str [],.int .i64 0]],toks:=[],loops:=[]:Heap} (.ptr bs.length 0) (.agg [.str x.name,.int .i64 x.n])=some (ag)from aC (cs:=[.str [],.int .i64 0]) (cs':=[.str x.name,.int .i64 x.n]) (by simp+zetaDelta) rfl (by simp+zetaDelta [List.set_append]))<|.load (lB false 1 ag bs.length 0 (.str x.name) [.str x.name,.int .i64 x.n])<|.aG ([.str x.name]) (.bool (isName x.name)) (show aq cfg 235 [.str x.name] (.bool (isName x.name))from xu _)<|.split (isName x.name=true) (fun h1=>.no (show(!isName x.name)=false from by have hh:isName x.name=true:=h1;simp[hh])<|.load (lB false 1 ag bs.length 1 (.int .i64 x.n) [.str x.name,.int .i64 x.n])<|.split (x.n≤(0:Int)) (fun h2=>.yes (dT (x.n≤(0:Int)) h2)<|.fin ((.ret (.int .i64 1),ag)) (by simp only[aJ];grind[jl,kT])) (fun h2=>.no (dF (x.n≤(0:Int)) h2)<|.yes (dT ((0:Int)<(↑(j+1):Int)))<|.load (lB false 1 ag bs.length 0 (.str x.name) [.str x.name,.int .i64 x.n])<|.bin (show cG .sub (.int .i64 (↑(j+1):Int)) (.int .i64 1)=some (.int .i64 ↑j)from pg (by omega))<|.idx (show cc 2 (.sl .sh (l.map ai)) (.int .i64 ↑j)=some (.ref (ai p).cells)from fN hp (by rfl))<|.load (rfl:ak false 1 ag (.ref [.str p.name])=some (.str p.name))<|.split ((Op.bytesLess x.name p.name||x.name==p.name)=true) (fun h3=>.yes (show(Op.bytesLess x.name p.name||x.name==p.name)=true from h3)<|.fin ((.ret (.int .i64 13),ag)) (by simp only[aJ];grind[jl,kT])) (fun h3=>.no (show(Op.bytesLess x.name p.name||x.name==p.name)=false from Bool.eq_false_iff.2 h3)<|.bin (show cG .add (.int .i64 (↑(j+1):Int)) (.int .i64 1)=some (.int .i64 (↑(j+1+1):Int))from fK (by omega))<|.aT uS [(0,.sl .sh (l.map ai)),(8,.sl .sh (l.map ai)),(9,.int .i64 (↑l.length)),(10,.int .i64 (↑(j+1+1):Int))] (ag) (fun T hT=>(ih (j+1+1) (bs++[[AV.str x.name,.int .i64 x.n]]) cq T hT).to (by grind[jl,kT]))))) (fun h1=>.yes (show(!isName x.name)=true from by have hh:¬(isName x.name=true):=h1;simp[hh])<|.fin ((.ret (.int .i64 3),ag)) (by simp only[aJ];grind[jl,kT])))
theorem JE(l:List aH):aq cfg 247 [.sl .sh (l.map ai)] (.int .i64 (gW l)):=by
 refine aq.run (UR _ _) ?_
 have h:=fun hn=>Gy l hn l 0 [] rfl
 exact let ag:Heap:={boxes:=[],toks:=[],loops:=[]:Heap};gG 60 [] trivial (.len (lM .sh ai l)<|.split ((8:Int)<(↑l.length:Int)) (fun h1=>.yes (dT ((8:Int)<(↑l.length:Int)) h1)<|.fin ((.ret (.int .i64 4),ag)) (by simp only[aJ];grind[gW])) (fun h1=>.no (dF ((8:Int)<(↑l.length:Int)) h1)<|.len (lM .sh ai l)<|.aT uS [(0,.sl .sh (l.map ai)),(8,.sl .sh (l.map ai)),(9,.int .i64 (↑l.length)),(10,.int .i64 0)] (ag) (fun T hT=>(h (by omega) T hT).to (by grind[gW]))))
end Go.Aa.T
namespace Go.Aa.T
open Go.Aa Go.Proofs
def bq:List Int→Int
 |[]=>0
 |x::r=>if x=0 then bq r else x
end Go.Aa.T
namespace Go.Aa.T
open Go.Aa Go.Proofs
structure Node where
 name:List UInt8
 cap:List aH
 labels:List fL
 aV:List cR
 br:Bool
def aA(n:Node):AV:=.agg [.str n.name,.sl .sh (n.cap.map ai),.sl .sh (n.labels.map aI),.sl .sh (n.aV.map bu),.bool n.br]
def vE(n:Node):Int:=bq [if isName n.name then 0 else 3,gW n.cap,Bm n.labels,No n.aV]
end Go.Aa.T
namespace Go.Aa.T
open Go.Aa Go.Proofs
end Go.Aa.T
namespace Go.Aa.T
open Go.Aa Go.Proofs
def vf(x:aH):Bool:=decide (x.name.length≤50)
def kU(l:List aH):Bool:=decide (l.length≤20)&&l.all vf
theorem xC{l:List aH}(h:kU l=true):l.length≤20:=by
 simp only[kU,Bool.and_eq_true,decide_eq_true_eq]at h;exact h.1
theorem CQ(l:List aH)(hn:l.length≤20):∀(post:List aH)(i:Nat)(hd:l.drop i=post)(T:Env)(hT:Has T [(0,.sl .sh (l.map ai)),(3,.int .i64 i)]),
 bA cfg a203 zL T Heap.nil (aJ (.bool (post.all vf))):=by
 intro post
 induction post with
 |nil=>
  intro i hd T hT
  have hge:=bf hd
  exact gG 60 _ hT (.len (lM .sh ai l)<|.no (dF ((↑i:Int)<(↑l.length:Int)))<|.fin ((.ret (.bool true),{boxes:=[],toks:=[],loops:=[]:Heap})) rfl)
 |cons x post ih=>
  intro i hd T hT
  have hlt:=bg hd
  have cq:=aL hd
  exact let ag:Heap:={boxes:=[],toks:=[],loops:=[]:Heap};gG 60 _ hT (.len (lM .sh ai l)<|.yes (dT ((↑i:Int)<(↑l.length:Int)))<|.idx (iR 2 ai hd)<|.len (show dA true (.str x.name)=some (.int .i64 (↑x.name.length))from dw _)<|.split ((50:Int)<(↑x.name.length:Int)) (fun h1=>.yes (dT ((50:Int)<(↑x.name.length:Int)) h1)<|.fin ((.ret (.bool false),ag)) (by simp only[aJ];grind[vf])) (fun h1=>.no (dF ((50:Int)<(↑x.name.length:Int)) h1)<|.bin (iI i)<|.aT zL [(0,.sl .sh (l.map ai)),(3,.int .i64 (↑(i+1)))] (ag) (fun T hT=>(ih (i+1) cq T hT).to (by grind[vf]))))
theorem xD(l:List aH):aq cfg 203 [.sl .sh (l.map ai)] (.bool (kU l)):=by
 refine aq.run (Uq _ _) ?_
 have h:=fun hn=>CQ l hn l 0 rfl
 exact let ag:Heap:={boxes:=[],toks:=[],loops:=[]:Heap};gG 60 [] trivial (.len (lM .sh ai l)<|.split ((20:Int)<(↑l.length:Int)) (fun h1=>.yes (dT ((20:Int)<(↑l.length:Int)) h1)<|.fin ((.ret (.bool false),ag)) (by simp only[aJ];grind[kU])) (fun h1=>.no (dF ((20:Int)<(↑l.length:Int)) h1)<|.aT zL [(0,.sl .sh (l.map ai)),(3,.int .i64 0)] (ag) (fun T hT=>(h (by omega) T hT).to (by grind[kU]))))
theorem Gz(l:List aH)(hn:l.length≤20):∀(post:List aH)(i:Nat)(acc:List AV)(hd:l.drop i=post)(ha:acc.length=i)(hl:cE 2 acc=true)(T:Env)(hT:Has T [(0,.sl .sh (l.map ai)),(3,aZ Heap.nil acc),(4,.int .i64 i)]),
 bA cfg a196 zG T (cu Heap.nil acc) (aJ (aZ Heap.nil (acc++post.map ai))):=by
 intro post
 induction post with
 |nil=>
  intro i acc hd ha hl T hT
  have hge:=bf hd
  exact gG 60 _ hT (.len (lM .sh ai l)<|.no (dF ((↑i:Int)<(↑l.length:Int)))<|.fin ((.ret (aU (aU (aU (aU (aU (aU (bJ T [(0,.sl .sh (l.map ai)),(3,aZ Heap.nil acc),(4,.int .i64 ↑i)]) (some 5) (ev (bJ T [(0,.sl .sh (l.map ai)),(3,aZ Heap.nil acc),(4,.int .i64 ↑i)]) (.t 4))) (some 6) (ev (aU (bJ T [(0,.sl .sh (l.map ai)),(3,aZ Heap.nil acc),(4,.int .i64 ↑i)]) (some 5) (ev (bJ T [(0,.sl .sh (l.map ai)),(3,aZ Heap.nil acc),(4,.int .i64 ↑i)]) (.t 4))) (.t 0))) (some 7) (.int .i64 (↑l.length))) (some 8) (.bool (decide ((↑i:Int)<(↑l.length:Int))))) (some 25) (ev (aU (aU (aU (aU (bJ T [(0,.sl .sh (l.map ai)),(3,aZ Heap.nil acc),(4,.int .i64 ↑i)]) (some 5) (ev (bJ T [(0,.sl .sh (l.map ai)),(3,aZ Heap.nil acc),(4,.int .i64 ↑i)]) (.t 4))) (some 6) (ev (aU (bJ T [(0,.sl .sh (l.map ai)),(3,aZ Heap.nil acc),(4,.int .i64 ↑i)]) (some 5) (ev (bJ T [(0,.sl .sh (l.map ai)),(3,aZ Heap.nil acc),(4,.int .i64 ↑i)]) (.t 4))) (.t 0))) (some 7) (.int .i64 (↑l.length))) (some 8) (.bool (decide ((↑i:Int)<(↑l.length:Int))))) (.t 3))) (some 2) (ev (aU (aU (aU (aU (aU (bJ T [(0,.sl .sh (l.map ai)),(3,aZ Heap.nil acc),(4,.int .i64 ↑i)]) (some 5) (ev (bJ T [(0,.sl .sh (l.map ai)),(3,aZ Heap.nil acc),(4,.int .i64 ↑i)]) (.t 4))) (some 6) (ev (aU (bJ T [(0,.sl .sh (l.map ai)),(3,aZ Heap.nil acc),(4,.int .i64 ↑i)]) (some 5) (ev (bJ T [(0,.sl .sh (l.map ai)),(3,aZ Heap.nil acc),(4,.int .i64 ↑i)]) (.t 4))) (.t 0))) (some 7) (.int .i64 (↑l.length))) (some 8) (.bool (decide ((↑i:Int)<(↑l.length:Int))))) (some 25) (ev (aU (aU (aU (aU (bJ T [(0,.sl .sh (l.map ai)),(3,aZ Heap.nil acc),(4,.int .i64 ↑i)]) (some 5) (ev (bJ T [(0,.sl .sh (l.map ai)),(3,aZ Heap.nil acc),(4,.int .i64 ↑i)]) (.t 4))) (some 6) (ev (aU (bJ T [(0,.sl .sh (l.map ai)),(3,aZ Heap.nil acc),(4,.int .i64 ↑i)]) (some 5) (ev (bJ T [(0,.sl .sh (l.map ai)),(3,aZ Heap.nil acc),(4,.int .i64 ↑i)]) (.t 4))) (.t 0))) (some 7) (.int .i64 (↑l.length))) (some 8) (.bool (decide ((↑i:Int)<(↑l.length:Int))))) (.t 3))) (.t 25)) 2),cu Heap.nil acc)) (by simp only[aJ,List.map_nil,List.append_nil];rfl))
 |cons x post ih=>
  intro i acc hd ha hl T hT
  have hlt:=bg hd
  have cq:=aL hd
  exact gG 60 _ hT (.len (lM .sh ai l)<|.yes (dT ((↑i:Int)<(↑l.length:Int)) (by simp;omega))<|.idx (iR 2 ai hd)<|.load (rfl:ak false 1 (cu Heap.nil acc) (.ref [.str x.name])=some (.str x.name))<|.idx (iR 2 ai hd)<|.load (rfl:ak false 1 (cu Heap.nil acc) (.ref [.int .i64 x.n])=some (.int .i64 x.n))<|.append (show bw 2 24 (cu Heap.nil acc) (aZ Heap.nil acc) (.sl .full [.agg [.str x.name,.int .i64 x.n]])=some ((aZ Heap.nil (acc++[AV.agg [.str x.name,.int .i64 x.n]]),cu Heap.nil (acc++[AV.agg [.str x.name,.int .i64 x.n]])))from eF (by omega) hl (by rfl) (by rfl))<|.bin (iI i)<|.aT zG [(0,.sl .sh (l.map ai)),(3,aZ Heap.nil (acc++[AV.agg [.str x.name,.int .i64 x.n]])),(4,.int .i64 (↑(i+1)))] (cu Heap.nil (acc++[AV.agg [.str x.name,.int .i64 x.n]])) (fun T hT=>(ih (i+1) (acc++[AV.agg [.str x.name,.int .i64 x.n]]) cq (by simp;omega) (by exact e9 (by assumption) rfl) T hT).to (by simp[ai])))
theorem Bp(l:List aH)(hn:l.length≤20):aq cfg 196 [.sl .sh (l.map ai)] (aZ Heap.nil (l.map ai)):=by
 refine aq.run (Ul _ _) ?_
 have h:=Gz l hn l 0 [] rfl rfl rfl
 exact gG 60 [] trivial (.aT zG [(0,.sl .sh (l.map ai)),(3,.sl .full []),(4,.int .i64 0)] ({boxes:=[],toks:=[],loops:=[]:Heap}) (fun T hT=>(h T hT)))
instance(n:Node):qO (aA n):=⟨rfl,rfl⟩
def mT(n:Node):Bool:=decide (n.name.length≤50)&&(kU n.cap&&(kS n.labels&&u6 n.aV))
theorem GA(n:Node):aq cfg 116 [aA n] (.bool (mT n)):=by
 refine aq.run (TJ _ _) ?_
 exact let ag:Heap:={boxes:=[[.str n.name,.sl .sh (n.cap.map ai),.sl .sh (n.labels.map aI),.sl .sh (n.aV.map bu),.bool n.br]],toks:=[],loops:=[]:Heap};gG 80 [] trivial (.len (show dA true (.str n.name)=some (.int .i64 (↑n.name.length))from dw _)<|.split ((↑n.name.length:Int)≤(50:Int)) (fun h1=>.yes (dT ((↑n.name.length:Int)≤(50:Int)) h1)<|.aG ([.sl .sh (n.cap.map ai)]) (.bool (kU n.cap)) (show aq cfg 203 [.sl .sh (n.cap.map ai)] (.bool (kU n.cap))from xD _)<|.split (kU n.cap=true) (fun h2=>.yes (show(kU n.cap)=true from h2)<|.aG ([.sl .sh (n.labels.map aI)]) (.bool (kS n.labels)) (show aq cfg 204 [.sl .sh (n.labels.map aI)] (.bool (kS n.labels))from xy _)<|.split (kS n.labels=true) (fun h3=>.yes (show(kS n.labels)=true from h3)<|.aG ([.sl .sh (n.aV.map bu)]) (.bool (u6 n.aV)) (show aq cfg 205 [.sl .sh (n.aV.map bu)] (.bool (u6 n.aV))from Gh _)<|.fin ((.ret (.bool (u6 n.aV)),ag)) (by simp only[aJ];grind[mT])) (fun h3=>.no (show(kS n.labels)=false from Bool.eq_false_iff.2 h3)<|.fin ((.ret (.bool false),ag)) (by simp only[aJ];grind[mT]))) (fun h2=>.no (show(kU n.cap)=false from Bool.eq_false_iff.2 h2)<|.ff<|.fin ((.ret (.bool false),ag)) (by simp only[aJ];grind[mT]))) (fun h1=>.no (dF ((↑n.name.length:Int)≤(50:Int)) h1)<|.ff<|.ff<|.fin ((.ret (.bool false),ag)) (by simp only[aJ];grind[mT])))
structure QX(n:Node):Prop where
 cap:n.cap.length≤20
 labels:n.labels.length≤20
 aV:n.aV.length≤20
theorem tL{n:Node}(h:mT n=true):QX n:=by
 simp only[mT,Bool.and_eq_true,decide_eq_true_eq]at h
 exact⟨xC h.2.1,xw h.2.2.1,Gv h.2.2.2⟩
theorem U9(n:Node)(m1:n.cap.length≤20)(m2:n.labels.length≤20)(m3:n.aV.length≤20):aq cfg 124 [aA n] (aA n):=by
 refine aq.run (TR _ _) ?_
 exact let ag:List AV:=[.str n.name,.sl .sh (n.cap.map ai),.sl .sh (n.labels.map aI),.sl .sh (n.aV.map bu),.bool n.br];gG 80 [] trivial (.bE ([.sl .sh (n.cap.map ai)]) (.sl .sh (n.cap.map ai)) (show aq cfg 196 [.sl .sh (n.cap.map ai)] (aZ Heap.nil (n.cap.map ai))from Bp _ m1) ⟨rfl,rfl⟩ fe.p<|.bE ([.sl .sh (n.labels.map aI)]) (.sl .sh (n.labels.map aI)) (show aq cfg 197 [.sl .sh (n.labels.map aI)] (aZ Heap.nil (n.labels.map aI))from Bk _ m2) ⟨rfl,rfl⟩ fe.p<|.bE ([.sl .sh (n.aV.map bu)]) (.sl .sh (n.aV.map bu)) (show aq cfg 212 [.sl .sh (n.aV.map bu)] (aZ Heap.nil (n.aV.map bu))from JA _ m3) ⟨rfl,rfl⟩ fe.p<|.fin ((.ret (.agg ag),{boxes:=[ag,ag],toks:=[],loops:=[]:Heap})) rfl)
theorem JF(n:Node)(h:mT n=true):aq cfg 124 [aA n] (aA n):=U9 n (tL h).cap (tL h).labels (tL h).aV
theorem CR(l:List Node)(hn:l.length≤40)(hf:∀x∈l,mT x=true):∀(post:List Node)(i:Nat)(acc:List AV)(hd:l.drop i=post)(ha:acc.length=i)(hl:cE 5 acc=true)(T:Env)(hT:Has T [(0,.sl .sh (l.map aA)),(3,aZ Heap.nil acc),(4,.int .i64 i)]),
 bA cfg a53 F9 T (cu Heap.nil acc) (aJ (aZ Heap.nil (acc++post.map aA))):=by
 intro post
 induction post with
 |nil=>
  intro i acc hd ha hl T hT
  have hge:=bf hd
  exact gG 60 _ hT (.len (lM .sh aA l)<|.no (dF ((↑i:Int)<(↑l.length:Int)))<|.fin ((.ret (aU (aU (aU (aU (aU (aU (bJ T [(0,.sl .sh (l.map aA)),(3,aZ Heap.nil acc),(4,.int .i64 ↑i)]) (some 5) (ev (bJ T [(0,.sl .sh (l.map aA)),(3,aZ Heap.nil acc),(4,.int .i64 ↑i)]) (.t 4))) (some 6) (ev (aU (bJ T [(0,.sl .sh (l.map aA)),(3,aZ Heap.nil acc),(4,.int .i64 ↑i)]) (some 5) (ev (bJ T [(0,.sl .sh (l.map aA)),(3,aZ Heap.nil acc),(4,.int .i64 ↑i)]) (.t 4))) (.t 0))) (some 7) (.int .i64 (↑l.length))) (some 8) (.bool (decide ((↑i:Int)<(↑l.length:Int))))) (some 19) (ev (aU (aU (aU (aU (bJ T [(0,.sl .sh (l.map aA)),(3,aZ Heap.nil acc),(4,.int .i64 ↑i)]) (some 5) (ev (bJ T [(0,.sl .sh (l.map aA)),(3,aZ Heap.nil acc),(4,.int .i64 ↑i)]) (.t 4))) (some 6) (ev (aU (bJ T [(0,.sl .sh (l.map aA)),(3,aZ Heap.nil acc),(4,.int .i64 ↑i)]) (some 5) (ev (bJ T [(0,.sl .sh (l.map aA)),(3,aZ Heap.nil acc),(4,.int .i64 ↑i)]) (.t 4))) (.t 0))) (some 7) (.int .i64 (↑l.length))) (some 8) (.bool (decide ((↑i:Int)<(↑l.length:Int))))) (.t 3))) (some 2) (ev (aU (aU (aU (aU (aU (bJ T [(0,.sl .sh (l.map aA)),(3,aZ Heap.nil acc),(4,.int .i64 ↑i)]) (some 5) (ev (bJ T [(0,.sl .sh (l.map aA)),(3,aZ Heap.nil acc),(4,.int .i64 ↑i)]) (.t 4))) (some 6) (ev (aU (bJ T [(0,.sl .sh (l.map aA)),(3,aZ Heap.nil acc),(4,.int .i64 ↑i)]) (some 5) (ev (bJ T [(0,.sl .sh (l.map aA)),(3,aZ Heap.nil acc),(4,.int .i64 ↑i)]) (.t 4))) (.t 0))) (some 7) (.int .i64 (↑l.length))) (some 8) (.bool (decide ((↑i:Int)<(↑l.length:Int))))) (some 19) (ev (aU (aU (aU (aU (bJ T [(0,.sl .sh (l.map aA)),(3,aZ Heap.nil acc),(4,.int .i64 ↑i)]) (some 5) (ev (bJ T [(0,.sl .sh (l.map aA)),(3,aZ Heap.nil acc),(4,.int .i64 ↑i)]) (.t 4))) (some 6) (ev (aU (bJ T [(0,.sl .sh (l.map aA)),(3,aZ Heap.nil acc),(4,.int .i64 ↑i)]) (some 5) (ev (bJ T [(0,.sl .sh (l.map aA)),(3,aZ Heap.nil acc),(4,.int .i64 ↑i)]) (.t 4))) (.t 0))) (some 7) (.int .i64 (↑l.length))) (some 8) (.bool (decide ((↑i:Int)<(↑l.length:Int))))) (.t 3))) (.t 19)) 2),cu Heap.nil acc)) (by simp only[aJ,List.map_nil,List.append_nil];rfl))
 |cons x post ih=>
  intro i acc hd ha hl T hT
  have hlt:=bg hd
  have cq:=aL hd
  have hx:=hf x (eo hd)
  exact gG 60 _ hT (.len (lM .sh aA l)<|.yes (dT ((↑i:Int)<(↑l.length:Int)) (by simp;omega))<|.idx (iR 5 aA hd)<|.load (rfl:ak true 5 (cu Heap.nil acc) (.ref [.str x.name,.sl .sh (x.cap.map ai),.sl .sh (x.labels.map aI),.sl .sh (x.aV.map bu),.bool x.br])=some (.agg [.str x.name,.sl .sh (x.cap.map ai),.sl .sh (x.labels.map aI),.sl .sh (x.aV.map bu),.bool x.br]))<|.aG ([.agg [.str x.name,.sl .sh (x.cap.map ai),.sl .sh (x.labels.map aI),.sl .sh (x.aV.map bu),.bool x.br]]) (.agg [.str x.name,.sl .sh (x.cap.map ai),.sl .sh (x.labels.map aI),.sl .sh (x.aV.map bu),.bool x.br]) (show aq cfg 124 [aA x] (aA x)from JF _ hx)<|.append (show bw 5 96 (cu Heap.nil acc) (aZ Heap.nil acc) (.sl .full [.agg [.str x.name,.sl .sh (x.cap.map ai),.sl .sh (x.labels.map aI),.sl .sh (x.aV.map bu),.bool x.br]])=some ((aZ Heap.nil (acc++[AV.agg [.str x.name,.sl .sh (x.cap.map ai),.sl .sh (x.labels.map aI),.sl .sh (x.aV.map bu),.bool x.br]]),cu Heap.nil (acc++[AV.agg [.str x.name,.sl .sh (x.cap.map ai),.sl .sh (x.labels.map aI),.sl .sh (x.aV.map bu),.bool x.br]])))from eF (by omega) hl (by rfl) (by rfl))<|.bin (iI i)<|.aT F9 [(0,.sl .sh (l.map aA)),(3,aZ Heap.nil (acc++[AV.agg [.str x.name,.sl .sh (x.cap.map ai),.sl .sh (x.labels.map aI),.sl .sh (x.aV.map bu),.bool x.br]])),(4,.int .i64 (↑(i+1)))] (cu Heap.nil (acc++[AV.agg [.str x.name,.sl .sh (x.cap.map ai),.sl .sh (x.labels.map aI),.sl .sh (x.aV.map bu),.bool x.br]])) (fun T hT=>(ih (i+1) (acc++[AV.agg [.str x.name,.sl .sh (x.cap.map ai),.sl .sh (x.labels.map aI),.sl .sh (x.aV.map bu),.bool x.br]]) cq (by simp;omega) (by exact e9 (by assumption) rfl) T hT).to (by simp[aA])))
theorem GB(l:List Node)(hn:l.length≤40)(hf:∀x∈l,mT x=true):aq cfg 53 [.sl .sh (l.map aA)] (aZ Heap.nil (l.map aA)):=by
 refine aq.run (X7 _ _) ?_
 have h:=CR l hn hf l 0 [] rfl rfl rfl
 exact gG 60 [] trivial (.aT F9 [(0,.sl .sh (l.map aA)),(3,.sl .full []),(4,.int .i64 0)] ({boxes:=[],toks:=[],loops:=[]:Heap}) (fun T hT=>(h T hT)))
theorem JG(n:Node):aq cfg 207 [aA n] (.int .i64 (vE n)):=by
 refine aq.run (Uv _ _) ?_
 exact let ag:Heap:={boxes:=[[.str n.name,.sl .sh (n.cap.map ai),.sl .sh (n.labels.map aI),.sl .sh (n.aV.map bu),.bool n.br]],toks:=[],loops:=[]:Heap};gG 80 [] trivial (.aG ([.str n.name]) (.bool (isName n.name)) (show aq cfg 259 [.str n.name] (.bool (isName n.name))from cM _)<|.split (isName n.name=true) (fun h1=>.no (show(!isName n.name)=false from by have hh:isName n.name=true:=h1;simp[hh])<|.aG ([.sl .sh (n.cap.map ai)]) (.int .i64 (gW n.cap)) (show aq cfg 260 [.sl .sh (n.cap.map ai)] (.int .i64 (gW n.cap))from pS _)<|.split ((gW n.cap !=(0:Int))=true) (fun h2=>.yes (show(gW n.cap !=(0:Int))=true from h2)<|.fin ((.ret (.int .i64 (gW n.cap)),ag)) (by simp only[aJ];grind[vE,bq])) (fun h2=>.no (show(gW n.cap !=(0:Int))=false from Bool.eq_false_iff.2 h2)<|.aG ([.sl .sh (n.labels.map aI)]) (.int .i64 (Bm n.labels)) (show aq cfg 261 [.sl .sh (n.labels.map aI)] (.int .i64 (Bm n.labels))from Bn _)<|.split ((Bm n.labels !=(0:Int))=true) (fun h3=>.yes (show(Bm n.labels !=(0:Int))=true from h3)<|.fin ((.ret (.int .i64 (Bm n.labels)),ag)) (by simp only[aJ];grind[vE,bq])) (fun h3=>.no (show(Bm n.labels !=(0:Int))=false from Bool.eq_false_iff.2 h3)<|.aG ([.sl .sh (n.aV.map bu)]) (.int .i64 (No n.aV)) (show aq cfg 262 [.sl .sh (n.aV.map bu)] (.int .i64 (No n.aV))from JC _)<|.fin ((.ret (.int .i64 (No n.aV)),ag)) (by simp only[aJ];grind[vE,bq])))) (fun h1=>.yes (show(!isName n.name)=true from by have hh:¬(isName n.name=true):=h1;simp[hh])<|.fin ((.ret (.int .i64 3),ag)) (by simp only[aJ];grind[vE,bq])))
def ku{X:Type}(nm:X→List UInt8)(s:List X)(i:Nat)(x:X):Bool:=match i with
 |0=>false
 |j+1=>match s[j]? with
  |some p=>Op.bytesLess (nm x) (nm p)||nm x==nm p
  |none=>false
def oE{X:Type}(ck:X→Int)(nm:X→List UInt8)(s:List X):Nat→List X→Int
 |_,[]=>0
 |i,x::post=>if ck x=0 then(if ku nm s i x then 13 else oE ck nm s (i+1) post)else ck x
def fB{X:Type}(most:Nat)(ck:X→Int)(nm:X→List UInt8)(s:List X):Int:=if s.length≤most then oE ck nm s 0 s else 4
def cL{X:Type}(nm:X→List UInt8)(l:List X)(n:List UInt8):Option X:=l.find? fun x=>nm x==n
theorem sy(l:List Node)(hn:l.length≤32):∀(post:List Node)(i:Nat)(hd:l.drop i=post)(T:Env)(hT:Has T [(0,.sl .sh (l.map aA)),(3,.int .i64 i)]),
 bA cfg IL uM T Heap.nil (aJ (.int .i64 (oE vE Node.name l i post))):=by
 intro post
 induction post with
 |nil=>
  intro i hd T hT
  have hge:=bf hd
  exact gG 60 _ hT (.len (lM .sh aA l)<|.no (dF ((↑i:Int)<(↑l.length:Int)))<|.fin ((.ret (.int .i64 0),{boxes:=[],toks:=[],loops:=[]:Heap})) rfl)
 |cons x post ih=>
  intro i hd T hT
  have hlt:=bg hd
  have cq:=aL hd
  have hc:=JG x
  have e:oE vE Node.name l i (x::post)=if vE x=0 then(if ku Node.name l i x then 13 else oE vE Node.name l (i+1) post)else vE x:=rfl
  rw[e]
  generalize vE x=c at hc⊢
  cases i with
  |zero=>exact let ag:Heap:={boxes:=[],toks:=[],loops:=[]:Heap};gG 60 _ hT (.len (lM .sh aA l)<|.yes (dT ((↑(0:Nat):Int)<(↑l.length:Int)))<|.idx (show cc 5 (.sl .sh (l.map aA)) (.int .i64 (↑(0:Nat):Int))=some (.ref (aA x).cells)from bx hd (by rfl))<|.aG ([.agg [.str x.name,.sl .sh (x.cap.map ai),.sl .sh (x.labels.map aI),.sl .sh (x.aV.map bu),.bool x.br]]) (.int .i64 c) hc<|.split ((c !=(0:Int))=true) (fun h1=>.yes (show(c !=(0:Int))=true from h1)<|.fin ((.ret (.int .i64 c),ag)) (by simp only[aJ];grind[ku])) (fun h1=>.no (show(c !=(0:Int))=false from Bool.eq_false_iff.2 h1)<|.ff<|.ff<|.bin (show cG .add (.int .i64 (↑(0:Nat):Int)) (.int .i64 1)=some (.int .i64 (↑(0+1):Int))from fK (by omega))<|.aT uM [(0,.sl .sh (l.map aA)),(3,.int .i64 (↑(0+1):Int))] (ag) (fun T hT=>(ih (0+1) cq T hT).to (by grind[ku]))))
  |succ j=>
   obtain⟨p,hp⟩:∃p,l[j]?=some p:=⟨l[j],List.getElem?_eq_getElem (by omega)⟩
   exact let ag:Heap:={boxes:=[],toks:=[],loops:=[]:Heap};gG 60 _ hT (.len (lM .sh aA l)<|.yes (dT ((↑(j+1):Int)<(↑l.length:Int)))<|.idx (show cc 5 (.sl .sh (l.map aA)) (.int .i64 (↑(j+1):Int))=some (.ref (aA x).cells)from bx hd (by rfl))<|.aG ([.agg [.str x.name,.sl .sh (x.cap.map ai),.sl .sh (x.labels.map aI),.sl .sh (x.aV.map bu),.bool x.br]]) (.int .i64 c) hc<|.split ((c !=(0:Int))=true) (fun h1=>.yes (show(c !=(0:Int))=true from h1)<|.fin ((.ret (.int .i64 c),ag)) (by simp only[aJ];grind[ku])) (fun h1=>.no (show(c !=(0:Int))=false from Bool.eq_false_iff.2 h1)<|.yes (dT ((0:Int)<(↑(j+1):Int)))<|.idx (show cc 5 (.sl .sh (l.map aA)) (.int .i64 (↑(j+1):Int))=some (.ref (aA x).cells)from bx hd (by rfl))<|.bin (show cG .sub (.int .i64 (↑(j+1):Int)) (.int .i64 1)=some (.int .i64 ↑j)from pg (by omega))<|.idx (show cc 5 (.sl .sh (l.map aA)) (.int .i64 ↑j)=some (.ref (aA p).cells)from fN hp (by rfl))<|.split ((Op.bytesLess x.name p.name||x.name==p.name)=true) (fun h2=>.yes (show(Op.bytesLess x.name p.name||x.name==p.name)=true from h2)<|.fin ((.ret (.int .i64 13),ag)) (by simp only[aJ];grind[ku])) (fun h2=>.no (show(Op.bytesLess x.name p.name||x.name==p.name)=false from Bool.eq_false_iff.2 h2)<|.bin (show cG .add (.int .i64 (↑(j+1):Int)) (.int .i64 1)=some (.int .i64 (↑(j+1+1):Int))from fK (by omega))<|.aT uM [(0,.sl .sh (l.map aA)),(3,.int .i64 (↑(j+1+1):Int))] (ag) (fun T hT=>(ih (j+1+1) cq T hT).to (by grind[ku])))))
theorem GC(l:List Node):aq cfg 118 [.sl .sh (l.map aA)] (.int .i64 (fB 32 vE Node.name l)):=by
 refine aq.run (TL _ _) ?_
 have h:=fun hn=>sy l hn l 0 rfl
 exact let ag:Heap:={boxes:=[],toks:=[],loops:=[]:Heap};gG 60 [] trivial (.len (lM .sh aA l)<|.split ((32:Int)<(↑l.length:Int)) (fun h1=>.yes (dT ((32:Int)<(↑l.length:Int)) h1)<|.fin ((.ret (.int .i64 4),ag)) (by simp only[aJ];grind[fB])) (fun h1=>.no (dF ((32:Int)<(↑l.length:Int)) h1)<|.aT uM [(0,.sl .sh (l.map aA)),(3,.int .i64 0)] (ag) (fun T hT=>(h (by omega) T hT).to (by grind[fB]))))
def ez:Node:=⟨[],[],[],[],false⟩
def Af:List AV:=[.str [],.sl .full [],.sl .full [],.sl .full [],.bool false]
def mU:Option Node→AV
 |none=>.tuple [.agg Af,.bool false]
 |some x=>.tuple [aA x,.bool true]
theorem rA(l:List Node)(s:List UInt8)(hn:l.length<9223372036854775807):∀(post:List Node)(i:Nat)(bs:List (List AV))(hd:l.drop i=post)(T:Env)(hT:Has T [(4,.ptr 0 0),(1,.str s),(8,.sl .sh (l.map aA)),(9,.int .i64 l.length),(10,.int .i64 i)]),
 bA cfg SA Gg T ⟨Af::bs,[],[]⟩ (aJ (mU (cL Node.name post s))):=by
 intro post
 induction post with
 |nil=>
  intro i bs hd T hT
  have hge:=bf hd
  exact let ag:List AV:=[.str [],.sl .full [],.sl .full [],.sl .full [],.bool false];let ax:Heap:={boxes:=ag::bs,toks:=[],loops:=[]:Heap};gG 60 _ hT (.no (dF ((↑i:Int)<(↑l.length:Int)))<|.store (show aW 5 ax (.ptr 0 0) (.agg ag)=some (ax)from aC (cs:=ag) (cs':=ag) (by simp+zetaDelta) rfl (by simp+zetaDelta [List.set_append]))<|.fin ((.ret (.tuple [.agg ag,.bool false]),ax)) rfl)
 |cons x post ih=>
  intro i bs hd T hT
  have hlt:=bg hd
  have cq:=aL hd
  by_cases hx:Node.name x=s
  ·have e:cL Node.name (x::post) s=some x:=by simp[cL,List.find?_cons,hx]
   rw[e]
   exact let ag:List AV:=[.str x.name,.sl .sh (x.cap.map ai),.sl .sh (x.labels.map aI),.sl .sh (x.aV.map bu),.bool x.br];let ax:List AV:=[.str [],.sl .full [],.sl .full [],.sl .full [],.bool false];let aS:Heap:={boxes:=ax::(bs++[ag]),toks:=[],loops:=[]:Heap};let bt:Heap:={boxes:=ag::(bs++[ag]),toks:=[],loops:=[]:Heap};gG 60 _ hT (.yes (dT ((↑i:Int)<(↑l.length:Int)))<|.idx (iR 5 aA hd)<|.load (rfl:ak true 5 {boxes:=ax::bs,toks:=[],loops:=[]:Heap} (.ref ag)=some (.agg ag))<|.store (show aW 5 {boxes:=ax::(bs++[ax]),toks:=[],loops:=[]:Heap} (.ptr (ax::bs).length 0) (.agg ag)=some (aS)from aC (cs:=ax) (cs':=ag) (by simp+zetaDelta) rfl (by simp+zetaDelta [List.set_append]))<|.load (show ak false 1 aS (.ptr (ax::bs).length 0)=some (.str x.name)from ah (cs:=ag) (by simp+zetaDelta) rfl)<|.yes (show(x.name==s)=true from(by simpa using hx))<|.load (show ak true 5 aS (.ptr (ax::bs).length 0)=some (.agg ag)from ah (cs:=ag) (by simp+zetaDelta) rfl)<|.store (show aW 5 aS (.ptr 0 0) (.agg ag)=some (bt)from aC (cs:=ax) (cs':=ag) (by simp+zetaDelta) rfl (by simp+zetaDelta [List.set_append]))<|.fin ((.ret (.tuple [.agg ag,.bool true]),bt)) rfl)
  ·have e:cL Node.name (x::post) s=cL Node.name post s:=by simp[cL,List.find?_cons,hx]
   rw[e]
   exact let ag:List AV:=[.str x.name,.sl .sh (x.cap.map ai),.sl .sh (x.labels.map aI),.sl .sh (x.aV.map bu),.bool x.br];let ax:List AV:=[.str [],.sl .full [],.sl .full [],.sl .full [],.bool false];let aS:Heap:={boxes:=ax::(bs++[ag]),toks:=[],loops:=[]:Heap};gG 60 _ hT (.yes (dT ((↑i:Int)<(↑l.length:Int)))<|.idx (iR 5 aA hd)<|.load (rfl:ak true 5 {boxes:=ax::bs,toks:=[],loops:=[]:Heap} (.ref ag)=some (.agg ag))<|.store (show aW 5 {boxes:=ax::(bs++[ax]),toks:=[],loops:=[]:Heap} (.ptr (ax::bs).length 0) (.agg ag)=some (aS)from aC (cs:=ax) (cs':=ag) (by simp+zetaDelta) rfl (by simp+zetaDelta [List.set_append]))<|.load (show ak false 1 aS (.ptr (ax::bs).length 0)=some (.str x.name)from ah (cs:=ag) (by simp+zetaDelta) rfl)<|.no (show(x.name==s)=false from Bool.eq_false_iff.2 (by simpa using hx))<|.bin (iI i)<|.aT Gg [(4,.ptr 0 0),(1,.str s),(8,.sl .sh (l.map aA)),(9,.int .i64 (↑l.length)),(10,.int .i64 (↑(i+1)))] (aS) (fun T hT=>(ih (i+1) (bs++[ag]) cq T hT)))
theorem iS(l:List Node)(s:List UInt8)(hn:l.length<9223372036854775807):aq cfg 81 [.sl .sh (l.map aA),.str s] (mU (cL Node.name l s)):=by
 refine aq.run (Yr _ _) ?_
 have h:=rA l s hn l 0 [] rfl
 exact gG 60 [] trivial (.len (lM .sh aA l)<|.aT Gg [(4,.ptr 0 0),(1,.str s),(8,.sl .sh (l.map aA)),(9,.int .i64 (↑l.length)),(10,.int .i64 0)] ({boxes:=[[.str [],.sl .full [],.sl .full [],.sl .full [],.bool false]],toks:=[],loops:=[]:Heap}) (fun T hT=>(h T hT)))
theorem rB(l:List Node)(s:List UInt8)(hn:l.length<9223372036854775807):∀(post:List Node)(i:Nat)(bs:List (List AV))(hd:l.drop i=post)(T:Env)(hT:Has T [(4,.ptr 0 0),(0,.sl .sh (l.map aA)),(1,.str s),(6,.int .i64 i)]),
 bA cfg Sw Ge T ⟨Af::bs,[],[]⟩ (aJ (mU (cL Node.name post s))):=by
 intro post
 induction post with
 |nil=>
  intro i bs hd T hT
  have hge:=bf hd
  exact let ag:List AV:=[.str [],.sl .full [],.sl .full [],.sl .full [],.bool false];let ax:Heap:={boxes:=ag::bs,toks:=[],loops:=[]:Heap};gG 60 _ hT (.len (lM .sh aA l)<|.no (dF ((↑i:Int)<(↑l.length:Int)))<|.store (show aW 5 ax (.ptr 0 0) (.agg ag)=some (ax)from aC (cs:=ag) (cs':=ag) (by simp+zetaDelta) rfl (by simp+zetaDelta [List.set_append]))<|.fin ((.ret (.tuple [.agg ag,.bool false]),ax)) rfl)
 |cons x post ih=>
  intro i bs hd T hT
  have hlt:=bg hd
  have cq:=aL hd
  by_cases hx:Node.name x=s
  ·have e:cL Node.name (x::post) s=some x:=by simp[cL,List.find?_cons,hx]
   rw[e]
   exact let ag:List AV:=[.str x.name,.sl .sh (x.cap.map ai),.sl .sh (x.labels.map aI),.sl .sh (x.aV.map bu),.bool x.br];let ax:Heap:={boxes:=[.str [],.sl .full [],.sl .full [],.sl .full [],.bool false]::bs,toks:=[],loops:=[]:Heap};let aS:Heap:={boxes:=ag::bs,toks:=[],loops:=[]:Heap};gG 60 _ hT (.len (lM .sh aA l)<|.yes (dT ((↑i:Int)<(↑l.length:Int)))<|.idx (iR 5 aA hd)<|.load (rfl:ak false 1 ax (.ref [.str x.name])=some (.str x.name))<|.yes (show(x.name==s)=true from(by simpa using hx))<|.idx (iR 5 aA hd)<|.load (rfl:ak true 5 ax (.ref ag)=some (.agg ag))<|.store (show aW 5 ax (.ptr 0 0) (.agg ag)=some (aS)from aC (cs:=[.str [],.sl .full [],.sl .full [],.sl .full [],.bool false]) (cs':=ag) (by simp+zetaDelta) rfl (by simp+zetaDelta [List.set_append]))<|.fin ((.ret (.tuple [.agg ag,.bool true]),aS)) rfl)
  ·have e:cL Node.name (x::post) s=cL Node.name post s:=by simp[cL,List.find?_cons,hx]
   rw[e]
   exact let ag:Heap:={boxes:=[.str [],.sl .full [],.sl .full [],.sl .full [],.bool false]::bs,toks:=[],loops:=[]:Heap};gG 60 _ hT (.len (lM .sh aA l)<|.yes (dT ((↑i:Int)<(↑l.length:Int)))<|.idx (iR 5 aA hd)<|.load (rfl:ak false 1 ag (.ref [.str x.name])=some (.str x.name))<|.no (show(x.name==s)=false from Bool.eq_false_iff.2 (by simpa using hx))<|.bin (iI i)<|.aT Ge [(4,.ptr 0 0),(0,.sl .sh (l.map aA)),(1,.str s),(6,.int .i64 (↑(i+1)))] (ag) (fun T hT=>(ih (i+1) (bs) cq T hT)))
theorem iT(l:List Node)(s:List UInt8)(hn:l.length<9223372036854775807):aq cfg 73 [.sl .sh (l.map aA),.str s] (mU (cL Node.name l s)):=by
 refine aq.run (Yl _ _) ?_
 have h:=rB l s hn l 0 [] rfl
 exact gG 60 [] trivial (.aT Ge [(4,.ptr 0 0),(0,.sl .sh (l.map aA)),(1,.str s),(6,.int .i64 0)] ({boxes:=[[.str [],.sl .full [],.sl .full [],.sl .full [],.bool false]],toks:=[],loops:=[]:Heap}) (fun T hT=>(h T hT)))
theorem lZ{X:Type}{nm:X→List UInt8}{l:List X}{s:List UInt8}{x:X}(h:cL nm l s=some x):x∈l:=List.mem_of_find?_eq_some h
end Go.Aa.T
namespace Go.Aa.T
open Go.Aa Go.Proofs
def nH(a:Int):Prop:= -9223372036854775808≤a∧a≤9223372036854775807
def gx(a b:Int):Int:=if a<0 then 1 else if b<0 then 1 else 0
theorem GD(a b:Int):aq cfg 274 [.int .i64 a,.int .i64 b] (.int .i64 (gx a b)):=by
 refine aq.run (U5 _ _) ?_
 exact let ag:Heap:={boxes:=[],toks:=[],loops:=[]:Heap};gG 60 [] trivial (.split (a<(0:Int)) (fun h1=>.yes (dT (a<(0:Int)) h1)<|.tt<|.fin ((.ret (.int .i64 1),ag)) (by simp only[aJ];grind[gx])) (fun h1=>.no (dF (a<(0:Int)) h1)<|.split (b<(0:Int)) (fun h2=>.yes (dT (b<(0:Int)) h2)<|.fin ((.ret (.int .i64 1),ag)) (by simp only[aJ];grind[gx])) (fun h2=>.no (dF (b<(0:Int)) h2)<|.fin ((.ret (.int .i64 0),ag)) (by simp only[aJ];grind[gx]))))
theorem wrap_u64{x:Int}(h1:0≤x)(h2:x<18446744073709551616):IntKind.u64.wrap x=x:=by
 simp only[IntKind.wrap,IntKind.bits,IntKind.signed,Bool.false_and,show(2:Int)^64=18446744073709551616 from rfl,Bool.false_eq_true,if_false]
 omega
theorem xE{x:Int}(h1:0≤x)(h2:x<18446744073709551616):eX (.int .u64) (.int .i64 x)=some (.int .u64 x):=by
 simp[eX,wrap_u64 h1 h2]
theorem U'{a b:Int}(h1:0≤a+b)(h2:a+b<18446744073709551616):cG .add (.int .u64 a) (.int .u64 b)=some (.int .u64 (a+b)):=by
 simp[cG,jD,wrap_u64 h1 h2]
def gi(n:Int):Int×Int:=if 9223372036854775807<n then(0,5)else(n,0)
theorem GF(n:Int)(h:0≤n):aq cfg 275 [.int .u64 n,.bool false] (.tuple [.int .i64 (gi n).1,.int .i64 (gi n).2]):=by
 refine aq.run (U6 _ _) ?_
 by_cases hn:9223372036854775807<n
 ·have e:gi n=(0,5):=by simp[gi,hn]
  rw[e]
  exact gG 60 [] trivial (.ff<|.yes (dT ((9223372036854775807:Int)<n) (by exact hn))<|.fin ((.ret (.tuple [.int .i64 0,.int .i64 5]),{boxes:=[],toks:=[],loops:=[]:Heap})) rfl)
 ·have e:gi n=(n,0):=by simp[gi,hn]
  rw[e]
  have hc:eX (.int .i64) (.int .u64 n)=some (.int .i64 n):=FN (by omega)
  exact gG 60 [] trivial (.ff<|.no (dF ((9223372036854775807:Int)<n) (by exact hn))<|.conv hc<|.fin ((.ret (.tuple [.int .i64 n,.int .i64 0]),{boxes:=[],toks:=[],loops:=[]:Heap})) rfl)
def eN(a b:Int):Int×Int:=if gx a b≠0 then(0,gx a b)else gi (a+b)
theorem vg{a b:Int}(h:gx a b=0):0≤a∧0≤b:=by
 unfold gx at h
 split at h
 ·cases h
 ·split at h
  ·cases h
  ·omega
theorem GG(a b:Int)(ha:nH a)(hb:nH b):aq cfg 285 [.int .i64 a,.int .i64 b] (.tuple [.int .i64 (eN a b).1,.int .i64 (eN a b).2]):=by
 refine aq.run (U8 _ _) ?_
 obtain⟨Yu,Yv⟩:=ha
 obtain⟨hb1,hb2⟩:=hb
 have h0:=GD a b
 by_cases he:gx a b=0
 ·have e:eN a b=gi (a+b):=by simp[eN,he]
  rw[e]
  obtain⟨i1,i2⟩:=vg he
  rw[he]at h0
  have h1:=GF (a+b) (by omega)
  have c1:eX (.int .u64) (.int .i64 a)=some (.int .u64 a):=xE i1 (by omega)
  have c2:eX (.int .u64) (.int .i64 b)=some (.int .u64 b):=xE i2 (by omega)
  have c3:cG .add (.int .u64 a) (.int .u64 b)=some (.int .u64 (a+b)):=U' (by omega) (by omega)
  exact let ag:List AV:=[.int .i64 (gi (a+b)).fst,.int .i64 (gi (a+b)).snd];gG 60 [] trivial (.aG ([.int .i64 a,.int .i64 b]) (.int .i64 0) h0<|.ff<|.conv c1<|.conv c2<|.bin c3<|.aG ([.int .u64 (a+b),.bool false]) (.tuple ag) h1<|.fin ((.ret (.tuple ag),{boxes:=[],toks:=[],loops:=[]:Heap})) rfl)
 ·have e:eN a b=(0,gx a b):=by simp[eN,he]
  rw[e]
  generalize gx a b=c at*
  exact gG 60 [] trivial (.aG ([.int .i64 a,.int .i64 b]) (.int .i64 c) h0<|.yes (show(c !=(0:Int))=true from(by simpa using he))<|.fin ((.ret (.tuple [.int .i64 0,.int .i64 c]),{boxes:=[],toks:=[],loops:=[]:Heap})) rfl)
theorem GH(a b:Int)(ha:nH a)(hb:nH b):aq cfg 267 [.int .i64 a,.int .i64 b] (.tuple [.int .i64 (eN a b).1,.int .i64 (eN a b).2]):=by
 refine aq.run (U2 _ _) ?_
 obtain⟨Yu,Yv⟩:=ha
 obtain⟨hb1,hb2⟩:=hb
 have hs:0≤b→cG .sub (.int .i64 9223372036854775807) (.int .i64 b)=some (.int .i64 (9223372036854775807-b)):=fun h=>FM (by omega) (by omega)
 by_cases he:gx a b=0
 ·obtain⟨i1,i2⟩:=vg he
  have hs:=hs i2
  by_cases ho:9223372036854775807<a+b
  ·have e:eN a b=(0,5):=by simp[eN,he,gi,ho]
   rw[e]
   exact gG 60 [] trivial (.no (dF (a<(0:Int)))<|.no (dF (b<(0:Int)))<|.bin hs<|.yes (dT ((9223372036854775807:Int)-b<a))<|.fin ((.ret (.tuple [.int .i64 0,.int .i64 5]),{boxes:=[],toks:=[],loops:=[]:Heap})) rfl)
  ·have e:eN a b=(a+b,0):=by simp[eN,he,gi,ho]
   rw[e]
   have ha:cG .add (.int .i64 a) (.int .i64 b)=some (.int .i64 (a+b)):=Cx (by omega) (by omega)
   exact gG 60 [] trivial (.no (dF (a<(0:Int)))<|.no (dF (b<(0:Int)))<|.bin hs<|.no (dF ((9223372036854775807:Int)-b<a))<|.bin ha<|.fin ((.ret (.tuple [.int .i64 (a+b),.int .i64 0]),{boxes:=[],toks:=[],loops:=[]:Heap})) rfl)
 ·have e:eN a b=(0,1):=by
   have:gx a b=1:=by unfold gx at he⊢;grind
   simp[eN,this]
  rw[e]
  have VV:a<0∨b<0:=by unfold gx at he;grind
  by_cases h1:a<0
  ·exact gG 60 [] trivial (.yes (dT (a<(0:Int)))<|.tt<|.fin ((.ret (.tuple [.int .i64 0,.int .i64 1]),{boxes:=[],toks:=[],loops:=[]:Heap})) rfl)
  ·exact gG 60 [] trivial (.no (dF (a<(0:Int)))<|.yes (dT (b<(0:Int)))<|.fin ((.ret (.tuple [.int .i64 0,.int .i64 1]),{boxes:=[],toks:=[],loops:=[]:Heap})) rfl)
def bT(v:List aH)(s:List UInt8):Int:=match v.find? (fun x=>x.name==s)with
 |some x=>x.n
 |none=>0
theorem oF(x:aH)(v:List aH)(s:List UInt8):bT (x::v) s=if x.name=s then x.n else bT v s:=by
 unfold bT
 by_cases h:x.name=s
 ·simp[List.find?_cons,h]
 ·simp[List.find?_cons,h]
section
variable{H:Heap}{g:FuncId}{k:Nat}{p:aH→Bool}
theorem CS(hd:∀y:aH,cv cfg (.call (.c (.func g [.ptr k 0])) [.c (ai y)]) H (.bool (p y)) H)(l:List aH)(hn:l.length<9223372036854775807):∀(post:List aH)(i:Nat)(gU:l.drop i=post)(T:Env)
 (hT:Has T [(0,.sl .sh (l.map ai)),(1,.func g [.ptr k 0]),(7,.int .i64 l.length),(8,.int .i64 i)]),
 bA cfg a232 zZ T H (fun r=>r=(.ret (.int .i64 (bF p post i)),H)):=by
 intro post
 induction post with
 |nil=>
  intro i gU T hT
  have hge:=bf gU
  exact gG 60 _ hT (.no (dF ((↑i:Int)<(↑l.length:Int)))<|.fin ((.ret (.int .i64 (-1:Int)),H)) rfl)
 |cons x post ih=>
  intro i gU T hT
  have hlt:=bg gU
  have cq:=aL gU
  have nI:=hd x
  cases hp:p x with
  |true=>
   rw[hp]at nI
   have e:bF p (x::post) i=i:=by simp[bF,hp]
   rw[e]
   exact gG 60 _ hT (.yes (dT ((↑i:Int)<(↑l.length:Int)))<|.idx (iR 2 ai gU)<|.load (rfl:ak true 2 H (.ref [.str x.name,.int .i64 x.n])=some (.agg [.str x.name,.int .i64 x.n]))<|.cw nI<|.tt<|.fin ((.ret (.int .i64 ↑i),H)) rfl)
  |false=>
   rw[hp]at nI
   have e:bF p (x::post) i=bF p post (i+1):=by simp[bF,hp]
   rw[e]
   exact gG 60 _ hT (.yes (dT ((↑i:Int)<(↑l.length:Int)))<|.idx (iR 2 ai gU)<|.load (rfl:ak true 2 H (.ref [.str x.name,.int .i64 x.n])=some (.agg [.str x.name,.int .i64 x.n]))<|.cw nI<|.ff<|.bin (iI i)<|.aT zZ [(0,.sl .sh (l.map ai)),(1,.func g [.ptr k 0]),(7,.int .i64 (↑l.length)),(8,.int .i64 (↑(i+1)))] (H) (fun T hT=>(ih (i+1) cq T hT)))
theorem Va(hd:∀y:aH,cv cfg (.call (.c (.func g [.ptr k 0])) [.c (ai y)]) H (.bool (p y)) H)(l:List aH)(hn:l.length<9223372036854775807):
 lim cfg (.fn 232) [.sl .sh (l.map ai),.func g [.ptr k 0]] H=some (.ret (.int .i64 (bF p l 0)),H):=by
 rw[UO]
 have h:=CS hd l hn l 0 rfl
 have key:bA cfg a232 [.c MF] (ay [.sl .sh (l.map ai),.func g [.ptr k 0]]) H (fun r=>r=(.ret (.int .i64 (bF p l 0)),H)):=by
  exact gG 60 [] trivial (.len (lM .sh ai l)<|.aT zZ [(0,.sl .sh (l.map ai)),(1,.func g [.ptr k 0]),(7,.int .i64 (↑l.length)),(8,.int .i64 0)] (H) (fun T hT=>(h T hT)))
 obtain⟨r,h,rfl⟩:=key
 exact h
end
theorem xF(s:List UInt8):∀(l pre:List aH)(i:Nat),pre.length=i→(bT l s=0∧bF (fun x:aH=>x.name==s) l i= -1)∨∃j x,bF (fun x:aH=>x.name==s) l i=(j:Nat)∧(pre++l)[j]?=some x∧bT l s=x.n
 |[],pre,i,h=>.inl ⟨rfl,rfl⟩
 |x::l,pre,i,h=>by
  by_cases hx:x.name=s
  ·refine .inr ⟨i,x,by simp[bF,hx],by simp[←h],by rw[oF,if_pos hx]⟩
  ·have e1:bF (fun x:aH=>x.name==s) (x::l) i=bF (fun x:aH=>x.name==s) l (i+1):=by simp[bF,hx]
   rw[oF,if_neg hx,e1]
   rcases xF s l (pre++[x]) (i+1) (by simp[h])with h1|⟨j,y,h1,h2,h3⟩
   ·exact .inl h1
   ·exact .inr ⟨j,y,h1,by simpa using h2,h3⟩
theorem JH(s:List UInt8)(y:aH):cv cfg (.call (.c (.func 233 [.ptr 0 0])) [.c (ai y)]) ⟨[[.str s]],[],[]⟩ (.bool (y.name==s)) ⟨[[.str s]],[],[]⟩:=by
 have key:bA cfg a233 [.c MG] (ay [ai y,.ptr 0 0]) ⟨[[.str s]],[],[]⟩ (fun r=>r=(.ret (.bool (y.name==s)),⟨[[.str s]]++[(ai y).cells],[],[]⟩)):=by
  exact gG 60 [] trivial (.fin ((.ret (.bool (y.name==s)),{boxes:=[[.str s],[.str y.name,.int .i64 y.n]],toks:=[],loops:=[]:Heap})) rfl)
 obtain⟨r,h,rfl⟩:=key
 have h2:lim cfg (.fn 233) ([ai y]++[.ptr 0 0]) ⟨[[.str s]],[],[]⟩=some (.ret (.bool (y.name==s)),⟨[[.str s]]++[(ai y).cells],[],[]⟩):=by
  rw[UP];exact h
 have hd:=bU h2 rfl rfl
 rwa [show bz (.bool (y.name==s))=.bool (y.name==s)from rfl,lH (bs:=[[.str s]]) (ex:=[(ai y).cells]) (ts:=[]) rfl]at hd
theorem nJ(v:List aH)(s:List UInt8)(hn:v.length<9223372036854775807):aq cfg 165 [.sl .sh (v.map ai),.str s] (.int .i64 (bT v s)):=by
 refine aq.run (Uj _ _) ?_
 have h0:=bU (xs:=[.sl .sh (v.map ai),.func 233 [.ptr 0 0]]) (caps:=[]) (Va (g:=233) (k:=0) (JH s) v hn) rfl rfl
 rw[show bz (.int .i64 (bF (fun y:aH=>y.name==s) v 0))=.int .i64 (bF (fun y:aH=>y.name==s) v 0)from rfl,
  show de (⟨[[.str s]],[],[]⟩:Heap).boxes.length (⟨[[.str s]],[],[]⟩:Heap).toks.length (.int .i64 (bF (fun y:aH=>y.name==s) v 0)) ⟨[[.str s]],[],[]⟩=⟨[[.str s]],[],[]⟩from rfl]at h0
 rcases xF s v [] 0 rfl with⟨h1,h2⟩|⟨j,x,h1,h2,h3⟩
 ·rw[h2]at h0
  rw[h1]
  exact let ag:Heap:={boxes:=[[.str s]],toks:=[],loops:=[]:Heap};gG 60 [] trivial (.cw h0<|.tt<|.fin ((.ret (.int .i64 0),ag)) rfl)
 ·rw[h1]at h0
  rw[h3]
  have hx:cc 2 (.sl .sh (v.map ai)) (.int .i64 (j:Nat))=some (.ref [.str x.name,.int .i64 x.n]):=fN (f:=ai) (x:=x) (by simpa using h2) rfl
  exact let ag:Heap:={boxes:=[[.str s]],toks:=[],loops:=[]:Heap};gG 60 [] trivial (.cw h0<|.ff<|.idx hx<|.fin ((.ret (.int .i64 x.n),ag)) rfl)
theorem sA(v:List aH)(s:List UInt8)(hn:v.length<9223372036854775807):∀(post:List aH)(i:Nat)(hd:v.drop i=post)(T:Env)(hT:Has T [(0,.sl .sh (v.map ai)),(1,.str s),(5,.int .i64 i)]),
 bA cfg I6 zQ T Heap.nil (aJ (.int .i64 (bT post s))):=by
 intro post
 induction post with
 |nil=>
  intro i hd T hT
  have hge:=bf hd
  exact gG 60 _ hT (.len (lM .sh ai v)<|.no (dF ((↑i:Int)<(↑v.length:Int)))<|.fin ((.ret (.int .i64 0),{boxes:=[],toks:=[],loops:=[]:Heap})) rfl)
 |cons x post ih=>
  intro i hd T hT
  have hlt:=bg hd
  have cq:=aL hd
  rw[oF]
  by_cases hq:x.name=s
  ·rw[if_pos hq]
   exact gG 60 _ hT (.len (lM .sh ai v)<|.yes (dT ((↑i:Int)<(↑v.length:Int)))<|.idx (iR 2 ai hd)<|.yes (show(x.name==s)=true from(by simpa using hq))<|.idx (iR 2 ai hd)<|.fin ((.ret (.int .i64 x.n),{boxes:=[],toks:=[],loops:=[]:Heap})) rfl)
  ·rw[if_neg hq]
   exact gG 60 _ hT (.len (lM .sh ai v)<|.yes (dT ((↑i:Int)<(↑v.length:Int)))<|.idx (iR 2 ai hd)<|.no (show(x.name==s)=false from Bool.eq_false_iff.2 (by simpa using hq))<|.bin (iI i)<|.aT zQ [(0,.sl .sh (v.map ai)),(1,.str s),(5,.int .i64 (↑(i+1)))] ({boxes:=[],toks:=[],loops:=[]:Heap}) (fun T hT=>(ih (i+1) cq T hT)))
theorem lI(v:List aH)(s:List UInt8)(hn:v.length<9223372036854775807):aq cfg 211 [.sl .sh (v.map ai),.str s] (.int .i64 (bT v s)):=by
 refine aq.run (Uz _ _) ?_
 have h:=sA v s hn v 0 rfl
 exact gG 60 [] trivial (.aT zQ [(0,.sl .sh (v.map ai)),(1,.str s),(5,.int .i64 0)] ({boxes:=[],toks:=[],loops:=[]:Heap}) (fun T hT=>(h T hT)))
def nK(need QY:List aH):Bool:=need.all fun x=>decide (x.n≤bT QY x.name)
theorem sB(v w:List aH)(hv:v.length<9223372036854775807)(hn:w.length<9223372036854775807):∀(post:List aH)(i:Nat)(hd:v.drop i=post)(T:Env)(hT:Has T [(0,.sl .sh (v.map ai)),(1,.sl .sh (w.map ai)),(5,.int .i64 i)]),
 bA cfg IP zB T Heap.nil (aJ (.bool (nK post w))):=by
 intro post
 induction post with
 |nil=>
  intro i hd T hT
  have hge:=bf hd
  exact gG 60 _ hT (.len (lM .sh ai v)<|.no (dF ((↑i:Int)<(↑v.length:Int)))<|.fin ((.ret (.bool true),{boxes:=[],toks:=[],loops:=[]:Heap})) rfl)
 |cons x post ih=>
  intro i hd T hT
  have hlt:=bg hd
  have cq:=aL hd
  have hg:=lI w x.name hn
  have e:nK (x::post) w=(decide (x.n≤bT w x.name)&&nK post w):=rfl
  rw[e]
  by_cases hq:x.n≤bT w x.name
  ·rw[decide_eq_true hq,Bool.true_and]
   exact let ag:List AV:=[.sl .sh (w.map ai),.str x.name];gG 90 _ hT (.len (lM .sh ai v)<|.yes (dT ((↑i:Int)<(↑v.length:Int)))<|.idx (iR 2 ai hd)<|.idx (iR 2 ai hd)<|.aG (ag) (.int .i64 (bT w x.name)) hg<|.no (dF (bT w x.name<x.n))<|.bin (iI i)<|.aT zB [(0,.sl .sh (v.map ai)),(1,.sl .sh (w.map ai)),(5,.int .i64 (↑(i+1)))] ({boxes:=[],toks:=[],loops:=[]:Heap}) (fun T hT=>(ih (i+1) cq T hT)))
  ·rw[decide_eq_false hq,Bool.false_and]
   exact let ag:List AV:=[.sl .sh (w.map ai),.str x.name];gG 90 _ hT (.len (lM .sh ai v)<|.yes (dT ((↑i:Int)<(↑v.length:Int)))<|.idx (iR 2 ai hd)<|.idx (iR 2 ai hd)<|.aG (ag) (.int .i64 (bT w x.name)) hg<|.yes (dT (bT w x.name<x.n))<|.fin ((.ret (.bool false),{boxes:=[],toks:=[],loops:=[]:Heap})) rfl)
theorem GI(v w:List aH)(hv:v.length<9223372036854775807)(hn:w.length<9223372036854775807):aq cfg 122 [.sl .sh (v.map ai),.sl .sh (w.map ai)] (.bool (nK v w)):=by
 refine aq.run (TP _ _) ?_
 have h:=sB v w hv hn v 0 rfl
 exact gG 60 [] trivial (.aT zB [(0,.sl .sh (v.map ai)),(1,.sl .sh (w.map ai)),(5,.int .i64 0)] ({boxes:=[],toks:=[],loops:=[]:Heap}) (fun T hT=>(h T hT)))
end Go.Aa.T
namespace Go.Aa.T
open Go.Aa Go.Proofs
def nL(x:List UInt8):List (List UInt8)→List (List UInt8)
 |[]=>[]
 |y::l=>if y=x then nL x l else y::nL y l
def uq:List (List UInt8)→List (List UInt8)
 |[]=>[]
 |x::l=>x::nL x l
def cy(l:List (List UInt8)):List (List UInt8):=uq (ep l)
theorem vi(x:List UInt8):∀l:List (List UInt8),(nL x l).length≤l.length
 |[]=>Nat.le_refl _
 |y::l=>by
  unfold nL
  split
  ·have:=vi x l;simp;omega
  ·have:=vi y l;simp;omega
theorem GJ(l:List (List UInt8)):(uq l).length≤l.length:=by
 cases l with
 |nil=>exact Nat.le_refl _
 |cons x l=>have:=vi x l;simp[uq];omega
theorem oG{bs:List (List AV)}{ls:List jk}{v:AV}{nb nt:Nat}(h:bs.length=nb):de nb nt v ⟨bs,[],ls⟩=⟨bs,[],ls⟩:=by
 unfold de
 have e:∀(b:Bool),(if b=true then bs.take nb else bs)=bs:=fun b=>by
  split
  ·exact List.take_of_length_le (by omega)
  ·rfl
 simp only[e,List.take_nil,ite_self]
theorem tM:∀(n:Nat)(cs:List AV),n≤cs.length→eY 1 n cs=cs.take n
 |0,cs,_=>by simp[eY]
 |n+1,[],h=>by simp at h
 |n+1,c::cs,h=>by
  simp only[eY,if_true,List.headD_cons,List.drop_succ_cons,List.drop_zero,List.take_succ_cons]
  rw[tM n cs (by simpa using h)]
theorem l6(l:List (List UInt8)):(l.map AV.str).all bI=true:=List.all_eq_true.2 fun x hx=>by
 obtain⟨s,-,rfl⟩:=List.mem_map.1 hx
 rfl
theorem xG{bs:List (List AV)}{tk:List Nat}{ls:List jk}{kk n:Nat}{cs:List AV}(hk:bs[kk]?=some cs)(hn:n≤cs.length)(hd:cs.all bI=true):dR ⟨bs,tk,ls⟩ (.cY kk 0 n 1)=some (.sl .sh (cs.take n)):=by
 have h1:DY ⟨bs,tk,ls⟩ (.cY kk 0 n 1)=some (.sl .sh (cs.take n)):=by
  simp only[DY,DX,DV,hk,Nat.zero_add,List.drop_zero,Nat.mul_one]
  rw[if_pos ⟨hn,Nat.zero_le _,Nat.one_pos,hd⟩,tM n cs hn]
 unfold dR
 rw[if_neg (by simp[bz,cC,eW,bK,fH,sJ,bI]),h1]
 rfl
theorem kz{kk m:Nat}{bs:List (List AV)}{tk:List Nat}{ls:List jk}{C:List (List UInt8)}{y:List UInt8}(hk:bs[kk]?=some (C.map .str))(hy:C[m]?=some y):cv cfg (.load false 1 (.c (.ptr kk m))) ⟨bs,tk,ls⟩ (.str y) ⟨bs,tk,ls⟩:=fun T=>by
 have hm:=(List.getElem?_eq_some_iff.1 hy).1
 have:ak false 1 ⟨bs,tk,ls⟩ (.ptr kk m)=some (.str y):=by
  simp only[ak,hk,List.length_map]
  rw[if_pos (by omega)]
  simp[hy]
 simp only[aR,ev,this]
theorem xH{kk m:Nat}{bs:List (List AV)}{tk:List Nat}{ls:List jk}{C:List (List UInt8)}(y:List UInt8)(hk:bs[kk]?=some (C.map .str))(hm:m<C.length):cv cfg (.store 1 (.c (.ptr kk m)) (.c (.str y))) ⟨bs,tk,ls⟩ .undef ⟨bs.set kk ((C.set m y).map .str),tk,ls⟩:=fun T=>by
 have:aW 1 ⟨bs,tk,ls⟩ (.ptr kk m) (.str y)=some ⟨bs.set kk ((C.set m y).map .str),tk,ls⟩:=by
  simp only[aW,hk,List.length_map]
  rw[if_pos ⟨by omega,rfl,rfl,by omega⟩]
  simp[AV.cells,dU,List.map_set]
 simp only[aR,ev,this]
theorem rC{es b kk n:Nat}{B:List (List AV)}{tk:List Nat}{ls:List jk}{cs:List AV}{v:AV}{sk:SK}(hk:B[kk]?=some cs)(hn:cs.length=n*es)(h0:0<n)(hd:cs.all bI=true)(hv:cF es v=true)(Vb:dH [v]=true)(hb:(n+1)*b≤140737488355328):
 cv cfg (.dZ es b (.c (.cY kk 0 n es)) (.c (.sl sk [v]))) ⟨B,tk,ls⟩ (.cY B.length 0 (n+1) es) ⟨B.set kk []++[cs++v.cells],tk,ls⟩:=fun T=>by
 have:ef es b ⟨B,tk,ls⟩ (.cY kk 0 n es) (.sl sk [v])=some (.cY B.length 0 (n+1) es,⟨B.set kk []++[cs++v.cells],tk,ls⟩):=by
  simp only[ef,hk]
  rw[if_pos ⟨trivial,trivial,h0,hn,hd,hb,by simp only[cE,List.all_cons,List.all_nil,Bool.and_true];exact hv,Vb⟩]
  simp[cW]
 simp only[aR,ev,this]
theorem tN{es b:Nat}{B:List (List AV)}{tk:List Nat}{ls:List jk}{v:AV}{sk:SK}(hv:cF es v=true)(Vb:dH [v]=true)(hb:b≤140737488355328):
 cv cfg (.dZ es b (.c (.sl .full [])) (.c (.sl sk [v]))) ⟨B,tk,ls⟩ (.cY B.length 0 1 es) ⟨B++[v.cells],tk,ls⟩:=fun T=>by
 have:ef es b ⟨B,tk,ls⟩ (.sl .full []) (.sl sk [v])=some (.cY B.length 0 1 es,⟨B++[v.cells],tk,ls⟩):=by
  simp only[ef]
  rw[if_pos ⟨by trivial,by trivial,by simpa using hb,by simp only[cE,List.all_cons,List.all_nil,Bool.and_true];exact hv,Vb⟩]
  simp[cW]
 simp only[aR,ev,this]
section
variable(kk n:Nat)(B0:List (List AV))
def Ns(res:List (List UInt8))(r:cZ×Heap):Prop:=∃(m:Nat)(C:List (List UInt8)),r=(.ret (.cY kk 0 m 1),⟨B0.set kk (C.map .str),[],[]⟩)∧C.take m=res∧m≤C.length∧C.length=n
theorem sC(hn:n<9223372036854775807)(hk0:kk<B0.length)(k0:Nat)(h1:1≤k0):∀(post:List (List UInt8))(q m:Nat)(prev:List UInt8)(U C:List (List UInt8))(hm:m=k0+q)(hq:1≤q)(hC:C.length=n)(hU:C.take U.length=U)(hd:C.drop (m-1)=prev::post)(hl:U.length+1≤m)(T:Env)
 (hT:Has T [(0,.cY kk 0 n 1),(3,.int .i64 U.length),(4,.cY kk k0 (n-k0) 1),(5,.int .i64 q)]),
 bA cfg a228 uR T ⟨B0.set kk (C.map .str),[],[]⟩ (Ns kk n B0 (U++nL prev post)):=by
 intro post
 induction post with
 |nil=>
  intro q m prev U C hm hq hC hU hd hl T hT
  have hlen:n-(m-1)=1:=by
   have:=congrArg List.length hd
   simpa[hC]using this
  have hk:(B0.set kk (C.map AV.str))[kk]?=some (C.map .str):=by rw[List.getElem?_set_self hk0]
  have c1:cG .lss (.int .i64 (q:Nat)) (.int .i64 ((n-k0:Nat):Int))=some (.bool false):=Qz (by omega)
  have s1:eR 1 (.cY kk 0 n 1) (some (.int .i64 (U.length:Nat))) none none=some (.cY kk U.length (n-U.length) 1):=by
   simp only[eR,p4,eP]
   rw[if_neg (by omega)]
   rw[if_pos ⟨by omega,by omega⟩]
   simp only[Int.toNat_natCast]
   rw[if_pos (by omega)]
   simp
  have s2:eR 1 (.cY kk 0 n 1) none (some (.int .i64 (U.length:Nat))) none=some (.cY kk 0 U.length 1):=by
   simp only[eR,p4,eP]
   rw[if_neg (by omega)]
   rw[if_pos ⟨by omega,by omega⟩]
   simp only[Int.toNat_natCast]
   rw[if_pos (by omega)]
   simp
  have cl:cv cfg (.fE [.str []] (.c (.cY kk U.length (n-U.length) 1))) ⟨B0.set kk (C.map .str),[],[]⟩ (.tuple []) ⟨B0.set kk ((U++List.replicate (n-U.length) []).map .str),[],[]⟩:=fun T=>by
   have e0:(List.replicate (n-U.length) [AV.str []]).flatten=List.replicate (n-U.length) (.str []):=by
    generalize n-U.length=j
    induction j with
    |zero=>rfl
    |succ j ih=>rw[List.replicate_succ,List.flatten_cons,ih];rfl
   have:jE [.str []] ⟨B0.set kk (C.map .str),[],[]⟩ (.cY kk U.length (n-U.length) 1)=some ⟨B0.set kk ((U++List.replicate (n-U.length) []).map .str),[],[]⟩:=by
    simp only[jE,hk]
    rw[if_pos ⟨by simp[hC];omega,rfl,by omega,by omega,rfl⟩,e0,mP _ _ _ (by simp[hC];omega)]
    simp only[List.set_set]
    congr 3
    rw[←List.map_take,hU,List.drop_eq_nil_of_le (by simp[hC];omega)]
    simp
   simp only[aR,ev,this]
  exact let ag:Heap:={boxes:=B0.set kk (List.map .str (U++List.replicate (n-U.length) [])),toks:=[],loops:=[]:Heap};gG 60 _ hT (.len (rfl:dA false (.cY kk k0 (n-k0) 1)=some (.int .i64 (↑(n-k0):Int)))<|.no (dF ((↑q:Int)<(↑(n-k0):Int)))<|.slice s1<|.cw cl<|.slice s2<|.fin ((.ret (.cY kk 0 U.length 1),ag)) (by exact⟨U.length,U++List.replicate (n-U.length) [],rfl,by simp[nL],by simp,by simp;omega⟩))
 |cons y post ih=>
  intro q m prev U C hm hq hC hU hd hl T hT
  have hlen:n-(m-1)=post.length+2:=by
   have:=congrArg List.length hd
   simpa[hC]using this
  have hk:(B0.set kk (C.map AV.str))[kk]?=some (C.map .str):=by rw[List.getElem?_set_self hk0]
  have c1:cG .lss (.int .i64 (q:Nat)) (.int .i64 ((n-k0:Nat):Int))=some (.bool true):=Qy (by omega)
  have xI:C[k0+(q-1)]?=some prev:=by
   have:=drop_at hd
   rwa [show m-1=k0+(q-1)by omega]at this
  have Er:C.drop m=y::post:=by
   have:=aL hd
   rwa [show m-1+1=m by omega]at this
  have hy:C[k0+q]?=some y:=by rw[←hm];exact drop_at Er
  obtain⟨q,rfl⟩:∃p,q=p+1:=⟨q-1,by omega⟩
  have i1:cc 1 (.cY kk k0 (n-k0) 1) (.int .i64 ((q+1:Nat):Int))=some (.ptr kk (k0+(q+1))):=by
   have:=nF (k:=kk) (off:=k0) (n:=n-k0) (es:=1) (q:=.i64) (i:=q+1) (by omega)
   rwa [Nat.mul_one]at this
  have i2:cc 1 (.cY kk k0 (n-k0) 1) (.int .i64 (q:Nat))=some (.ptr kk (k0+q)):=by
   have:=nF (k:=kk) (off:=k0) (n:=n-k0) (es:=1) (q:=.i64) (i:=q) (by omega)
   rwa [Nat.mul_one]at this
  have l1:=kz (tk:=[]) (ls:=[]) hk hy
  rw[Nat.add_sub_cancel]at xI
  have l2:=kz (tk:=[]) (ls:=[]) hk xI
  have d1:=pg (i:=q) (by omega)
  by_cases e:y=prev
  ·have hg:nL prev (y::post)=nL prev post:=by simp[nL,e]
   rw[hg]
   have n1:cG .neq (.str y) (.str prev)=some (.bool false):=M6 e
   have cQ:=ih (q+1+1) (m+1) prev U C (by omega) (by omega) hC hU (by rw[Nat.add_sub_cancel,Er,e]) (by omega)
   exact let ag:Heap:={boxes:=B0.set kk (List.map .str C),toks:=[],loops:=[]:Heap};gG 90 _ hT (.len (rfl:dA false (.cY kk k0 (n-k0) 1)=some (.int .i64 (↑(n-k0):Int)))<|.yes (dT ((↑(q+1):Int)<(↑(n-k0):Int)))<|.idx i1<|.cw l1<|.bin d1<|.idx i2<|.cw l2<|.no (show(!y==prev)=false from by have hh:(y==prev)=true:=(by simpa using e);simp[hh])<|.bin (show cG .add (.int .i64 (↑(q+1):Int)) (.int .i64 1)=some (.int .i64 (↑(q+1+1):Int))from fK (by omega))<|.aT uR [(0,.cY kk 0 n 1),(3,.int .i64 (↑U.length)),(4,.cY kk k0 (n-k0) 1),(5,.int .i64 (↑(q+1+1):Int))] (ag) (fun T hT=>(cQ T hT)))
  ·have hg:nL prev (y::post)=y::nL y post:=by simp[nL,e]
   rw[hg]
   have n1:cG .neq (.str y) (.str prev)=some (.bool true):=M5 e
   have i3:cc 1 (.cY kk 0 n 1) (.int .i64 (U.length:Nat))=some (.ptr kk U.length):=by
    have:=nF (k:=kk) (off:=0) (n:=n) (es:=1) (q:=.i64) (i:=U.length) (by omega)
    rwa [Nat.mul_one,Nat.zero_add]at this
   have st:=xH (tk:=[]) (ls:=[]) y hk (m:=U.length) (by omega)
   rw[List.set_set]at st
   have cQ:=ih (q+1+1) (m+1) y (U++[y]) (C.set U.length y) (by omega) (by omega) (by simp[hC]) (by
    rw[List.length_append,List.length_singleton,List.take_add_one,List.getElem?_set_self (by omega),List.take_set_of_le (Nat.le_refl _),hU]
    rfl) (by
    rw[Nat.add_sub_cancel,List.drop_set_of_lt (by omega),Er]) (by simp;omega)
   rw[List.append_assoc]at cQ
   have el:((U++[y]).length:Int)=((U.length+1:Nat):Int):=by simp
   rw[el]at cQ
   have inc:=fK (i:=U.length) (by omega)
   exact let ag:Heap:={boxes:=B0.set kk (List.map .str C),toks:=[],loops:=[]:Heap};let ax:Heap:={boxes:=B0.set kk (List.map .str (C.set U.length y)),toks:=[],loops:=[]:Heap};gG 90 _ hT (.len (rfl:dA false (.cY kk k0 (n-k0) 1)=some (.int .i64 (↑(n-k0):Int)))<|.yes (dT ((↑(q+1):Int)<(↑(n-k0):Int)))<|.idx i1<|.cw l1<|.bin d1<|.idx i2<|.cw l2<|.yes (show(!y==prev)=true from by have hh:¬((y==prev)=true):=(by simpa using e);simp[hh])<|.idx i1<|.cw l1<|.idx i3<|.cw st<|.bin inc<|.bin (show cG .add (.int .i64 (↑(q+1):Int)) (.int .i64 1)=some (.int .i64 (↑(q+1+1):Int))from fK (by omega))<|.aT uR [(0,.cY kk 0 n 1),(3,.int .i64 (↑(U.length+1):Int)),(4,.cY kk k0 (n-k0) 1),(5,.int .i64 (↑(q+1+1):Int))] (ax) (fun T hT=>(cQ T hT)))
theorem sD(hn:n<9223372036854775807)(hk0:kk<B0.length):∀(post:List (List UInt8))(m:Nat)(prev:List UInt8)(C:List (List UInt8))(hm:1≤m)(hC:C.length=n)(hd:C.drop (m-1)=prev::post)(hu:uq C=C.take m++nL prev post)(T:Env)
 (hT:Has T [(0,.cY kk 0 n 1),(3,.int .i64 m)]),
 bA cfg a228 zY T ⟨B0.set kk (C.map .str),[],[]⟩ (Ns kk n B0 (uq C)):=by
 intro post
 induction post with
 |nil=>
  intro m prev C hm hC hd hu T hT
  have hlen:n-(m-1)=1:=by
   have:=congrArg List.length hd
   simpa[hC]using this
  have c1:cG .lss (.int .i64 (m:Nat)) (.int .i64 (n:Nat))=some (.bool false):=Qz (by omega)
  have e:uq C=C:=by
   rw[hu,List.take_of_length_le (by omega)];simp[nL]
  rw[e]
  exact gG 60 _ hT (.len (rfl:dA false (.cY kk 0 n 1)=some (.int .i64 ↑n))<|.no (dF ((↑m:Int)<(↑n:Int)))<|.fin ((.ret (.cY kk 0 n 1),{boxes:=B0.set kk (List.map .str C),toks:=[],loops:=[]:Heap})) (by exact⟨n,C,rfl,List.take_of_length_le (by omega),by omega,hC⟩))
 |cons y post ih=>
  intro m prev C hm hC hd hu T hT
  have hlen:n-(m-1)=post.length+2:=by
   have:=congrArg List.length hd
   simpa[hC]using this
  have hk:(B0.set kk (C.map AV.str))[kk]?=some (C.map .str):=by rw[List.getElem?_set_self hk0]
  have c1:cG .lss (.int .i64 (m:Nat)) (.int .i64 (n:Nat))=some (.bool true):=Qy (by omega)
  have xI:C[m-1]?=some prev:=drop_at hd
  have Er:C.drop m=y::post:=by
   have:=aL hd
   rwa [show m-1+1=m by omega]at this
  have hy:C[m]?=some y:=drop_at Er
  obtain⟨q,rfl⟩:∃p,m=p+1:=⟨m-1,by omega⟩
  have i1:cc 1 (.cY kk 0 n 1) (.int .i64 ((q+1:Nat):Int))=some (.ptr kk (q+1)):=by
   have:=nF (k:=kk) (off:=0) (n:=n) (es:=1) (q:=.i64) (i:=q+1) (by omega)
   rwa [Nat.mul_one,Nat.zero_add]at this
  have i2:cc 1 (.cY kk 0 n 1) (.int .i64 (q:Nat))=some (.ptr kk q):=by
   have:=nF (k:=kk) (off:=0) (n:=n) (es:=1) (q:=.i64) (i:=q) (by omega)
   rwa [Nat.mul_one,Nat.zero_add]at this
  have l1:=kz (tk:=[]) (ls:=[]) hk hy
  rw[Nat.add_sub_cancel]at xI
  have l2:=kz (tk:=[]) (ls:=[]) hk xI
  have d1:=pg (i:=q) (by omega)
  by_cases e:y=prev
  ·have n1:cG .eql (.str y) (.str prev)=some (.bool true):=M3 e
   have hg:nL prev (y::post)=nL prev post:=by simp[nL,e]
   have s1:eR 1 (.cY kk 0 n 1) (some (.int .i64 ((q+1:Nat):Int))) none none=some (.cY kk (q+1) (n-(q+1)) 1):=by
    simp only[eR,p4,eP]
    rw[if_neg (by omega)]
    rw[if_pos ⟨by omega,by omega⟩]
    simp only[Int.toNat_natCast]
    rw[if_pos (by omega)]
    simp
   have h2:=sC kk n B0 hn hk0 (q+1) (by omega) post 1 (q+1+1) prev (C.take (q+1)) C rfl (by omega) hC (by simp[List.take_take]) (by rw[Nat.add_sub_cancel,Er,e]) (by simp;omega)
   have el:((C.take (q+1)).length:Int)=((q+1:Nat):Int):=by
    rw[List.length_take,Nat.min_eq_left (by omega)]
   rw[el,←hg,←hu]at h2
   exact let ag:Heap:={boxes:=B0.set kk (List.map .str C),toks:=[],loops:=[]:Heap};gG 90 _ hT (.len (rfl:dA false (.cY kk 0 n 1)=some (.int .i64 ↑n))<|.yes (dT ((↑(q+1):Int)<(↑n:Int)))<|.idx i1<|.cw l1<|.bin d1<|.idx i2<|.cw l2<|.yes (show(y==prev)=true from(by simpa using e))<|.slice s1<|.aT uR [(0,.cY kk 0 n 1),(3,.int .i64 (↑(q+1):Int)),(4,.cY kk (q+1) (n-(q+1)) 1),(5,.int .i64 1)] (ag) (fun T hT=>(h2 T hT)))
  ·have n1:cG .eql (.str y) (.str prev)=some (.bool false):=M4 e
   have hg:nL prev (y::post)=y::nL y post:=by simp[nL,e]
   have cQ:=ih (q+1+1) y C (by omega) hC (by rw[Nat.add_sub_cancel,Er]) (by
    rw[hu,hg,List.take_add_one (i:=q+1),hy];simp)
   exact let ag:Heap:={boxes:=B0.set kk (List.map .str C),toks:=[],loops:=[]:Heap};gG 90 _ hT (.len (rfl:dA false (.cY kk 0 n 1)=some (.int .i64 ↑n))<|.yes (dT ((↑(q+1):Int)<(↑n:Int)))<|.idx i1<|.cw l1<|.bin d1<|.idx i2<|.cw l2<|.no (show(y==prev)=false from Bool.eq_false_iff.2 (by simpa using e))<|.bin (show cG .add (.int .i64 (↑(q+1):Int)) (.int .i64 1)=some (.int .i64 (↑(q+1+1):Int))from fK (by omega))<|.aT zY [(0,.cY kk 0 n 1),(3,.int .i64 (↑(q+1+1):Int))] (ag) (fun T hT=>(cQ T hT)))
theorem pq(hn:n<9223372036854775807)(hk0:kk<B0.length)(C:List (List UInt8))(hC:C.length=n)(h0:0<n):
 ∃(m:Nat)(C':List (List UInt8)),cv cfg (.c6 (.c (.func 228 [])) [.c (.cY kk 0 n 1)]) ⟨B0.set kk (C.map .str),[],[]⟩ (.cY kk 0 m 1) ⟨B0.set kk (C'.map .str),[],[]⟩∧C'.take m=uq C∧m≤C'.length∧C'.length=n:=by
 have key:bA cfg a228 [.c ME] (ay [.cY kk 0 n 1]) ⟨B0.set kk (C.map .str),[],[]⟩ (Ns kk n B0 (uq C)):=by
  by_cases h2:n<2
  ·obtain⟨x,rfl⟩:∃x,C=[x]:=by
    match C,hC with
    |[x],_=>exact⟨x,rfl⟩
    |[],h=>simp at h;omega
    |_::_::_,h=>simp at h;omega
   exact gG 60 [] trivial (.len (rfl:dA false (.cY kk 0 n 1)=some (.int .i64 ↑n))<|.yes (dT ((↑n:Int)<(2:Int)))<|.fin ((.ret (.cY kk 0 n 1),{boxes:=B0.set kk (List.map .str [x]),toks:=[],loops:=[]:Heap})) (by exact⟨n,[x],rfl,by simp at hC;subst hC;rfl,by simpa using Nat.le_of_eq hC.symm,hC⟩))
  ·obtain⟨x,l,rfl⟩:∃x l,C=x::l:=by
    cases C with
    |nil=>simp at hC;omega
    |cons x l=>exact⟨x,l,rfl⟩
   have h1:=sD kk n B0 hn hk0 l 1 x (x::l) (by omega) hC rfl rfl
   exact gG 60 [] trivial (.len (rfl:dA false (.cY kk 0 n 1)=some (.int .i64 ↑n))<|.no (dF ((↑n:Int)<(2:Int)))<|.aT zY [(0,.cY kk 0 n 1),(3,.int .i64 1)] ({boxes:=B0.set kk (List.map .str (x::l)),toks:=[],loops:=[]:Heap}) (fun T hT=>(h1 T hT)))
 obtain⟨r,h,m,C',rfl,h1,h2,h3⟩:=key
 refine⟨m,C',?_,h1,h2,h3⟩
 have h':lim cfg (.fn 228) [.cY kk 0 n 1] ⟨B0.set kk (C.map .str),[],[]⟩=some (.ret (.cY kk 0 m 1),⟨B0.set kk (C'.map .str),[],[]⟩):=by rw[QN];exact h
 have hd:=qX (xs:=[.cY kk 0 n 1]) h' rfl rfl
 rwa [show bz (.cY kk 0 m 1)=.cY kk 0 m 1 from rfl,oG (by simp)]at hd
end
end Go.Aa.T
namespace Go.Aa.T
open Go.Aa Go.Proofs
def di(v:List aH):AV:=.sl .sh (v.map ai)
def allNames(vs:List (List aH)):List (List UInt8):=vs.flatMap fun v=>v.map aH.name
theorem jH(v:List aH)(vs:List (List aH)):allNames (v::vs)=v.map aH.name++allNames vs:=rfl
def rM(kk:Nat):List (List UInt8)→AV
 |[]=>.sl .full []
 |_::l=>.cY kk 0 (l.length+1) 1
theorem tO:∀l:List (List UInt8),o8 (l.map .str)=some l
 |[]=>rfl
 |s::l=>by simp[o8,tO l]
theorem tP{kk:Nat}{B:List (List AV)}{l:List (List UInt8)}(hk:B[kk]?=some (l.map .str))(h0:0<l.length)(hb:l.length≤140737488355328):
 cv cfg (.c6 (.c (.func 227 [])) [.c (.cY kk 0 l.length 1)]) ⟨B,[],[]⟩ (.tuple []) ⟨B.set kk ((ep l).map .str),[],[]⟩:=by
 have h:lim cfg (.fn 227) [.cY kk 0 l.length 1] ⟨B,[],[]⟩=some (.ret (.tuple []),⟨B.set kk ((ep l).map .str),[],[]⟩):=by
  rw[nB (g:=q9) rfl rfl]
  have e:q9 [.cY kk 0 l.length 1] ⟨B,[],[]⟩=some (.tuple [],⟨B.set kk ((ep l).map .str),[],[]⟩):=by
   simp only[q9,hk]
   rw[if_pos ⟨trivial,trivial,h0,by simp,hb⟩,List.take_of_length_le (by simp),tO,List.drop_eq_nil_of_le (by simp)]
   simp
  rw[e];rfl
 have hd:=qX (xs:=[.cY kk 0 l.length 1]) h rfl rfl
 rwa [show bz (.tuple [])=.tuple []from rfl,oG (by simp)]at hd
theorem fR{g:FuncId}{xs:List AV}{v:AV}(h:aq cfg g xs v)(zs:List AV)(hx:zs.map bz=xs)(hd:xs.all bK=true)(h1:bz v=v)(h2:bK v=true)(H:Heap):
 cv cfg (.call (.c (.func g [])) (zs.map .c)) H v H∧cv cfg (.c6 (.c (.func g [])) (zs.map .c)) H v H:=by
 obtain⟨H',h⟩:=h.ret
 constructor<;>intro T
 ·have e:(zs.map dX.c).map (fun x=>bz (ev T x))=xs:=by rw[List.map_map];exact hx
  simp only[aR,e]
  rw[show ev T (.c (.func g []))=.func g []from rfl]
  simp only[en,hd,List.all_nil,Bool.and_self,if_true,List.append_nil,h,dR,h1,h2]
 ·have e:(zs.map dX.c).map (fun x=>bz (ev T x))=xs:=by rw[List.map_map];exact hx
  simp only[aR,e]
  rw[show ev T (.c (.func g []))=.func g []from rfl]
  simp only[gv,hd,List.all_nil,Bool.and_self,if_true,List.append_nil,h,h1,h2]
theorem tQ:aq cfg 227 [.sl .sh []] (.tuple []):=by
 have h:lim cfg (.fn 227) [.sl .sh []] Heap.nil=some (.ret (.tuple []),Heap.nil):=by rw[nB (g:=q9) rfl rfl];rfl
 exact aq.of h
theorem nM:aq cfg 228 [.sl .sh []] (.sl .sh []):=by
 refine aq.run (QN _ _) ?_
 exact gG 60 [] trivial (.len (show dA false (.sl .sh [])=some (.int .i64 (↑[].length:Int))from gH _ _)<|.tt<|.fin ((.ret (.sl .sh []),{boxes:=[],toks:=[],loops:=[]:Heap})) rfl)
def CT(acc:List (List UInt8)):cZ×Heap→Prop:=Lh (.sl .sh ((cy acc).map .str))
theorem CU(vs:List (List aH))(acc:List (List UInt8))(B:List (List AV))(kk:Nat)(hB:acc=[]∨B[kk]?=some (acc.map .str))(hl:acc.length≤100000)(T:Env)(i:Nat)(hi:vs.length≤i)
 (hT:Has T [(3,rM kk acc),(8,.sl .sh (vs.map di)),(9,.int .i64 vs.length),(10,.int .i64 i)]):bA cfg Cl uZ T ⟨B,[],[]⟩ (CT acc):=by
 cases acc with
 |nil=>
  have h1:=(fR tQ [.sl .full []] rfl rfl rfl rfl ⟨B,[],[]⟩).2
  have h2:=(fR nM [.sl .full []] rfl rfl rfl rfl ⟨B,[],[]⟩).2
  exact let ag:Heap:={boxes:=B,toks:=[],loops:=[]:Heap};gG 60 _ hT (.no (dF ((↑i:Int)<(↑vs.length:Int)))<|.cw h1<|.cw h2<|.fin ((.ret (.sl .sh []),ag)) (by exact⟨_,rfl,rfl⟩))
 |cons x l=>
  have hk:B[kk]?=some ((x::l).map .str):=by simpa using hB
  have h1:=tP hk (by simp) (by omega)
  have hkl:kk<B.length:=(List.getElem?_eq_some_iff.1 hk).1
  obtain⟨m,C,h2,h3,h4,h5⟩:=pq kk (x::l).length B (by omega) hkl (ep (x::l)) (gf _) (by simp)
  rw[List.length_cons]at h1 h2 h5
  have hout:dR ⟨B.set kk (C.map .str),[],[]⟩ (.cY kk 0 m 1)=some (.sl .sh ((cy (x::l)).map .str)):=by
   have:=xG (bs:=B.set kk (C.map .str)) (tk:=[]) (ls:=[]) (kk:=kk) (n:=m) (List.getElem?_set_self hkl) (by simpa using h4) (l6 C)
   rw[this,←List.map_take,h3];rfl
  exact let ag:Heap:={boxes:=B.set kk (List.map .str (ep (x::l))),toks:=[],loops:=[]:Heap};let ax:Heap:={boxes:=B.set kk (List.map .str C),toks:=[],loops:=[]:Heap};gG 60 _ hT (.no (dF ((↑i:Int)<(↑vs.length:Int)))<|.cw h1<|.cw h2<|.fin ((.ret (.cY kk 0 m 1),ax)) (by exact⟨_,rfl,hout⟩))
theorem xJ(vs:List (List aH))(hv:vs.length≤100)(hs:∀v∈vs,v.length≤100):∀(post:List (List aH))(i:Nat)(hd:vs.drop i=post)(hi:i≤vs.length)(acc:List (List UInt8))(B:List (List AV))(kk:Nat)(hB:acc=[]∨B[kk]?=some (acc.map .str))(hl:acc.length≤100*i)(T:Env)
 (hT:Has T [(3,rM kk acc),(8,.sl .sh (vs.map di)),(9,.int .i64 vs.length),(10,.int .i64 i)]),bA cfg Cl uZ T ⟨B,[],[]⟩ (CT (acc++allNames post)):=by
 intro post
 induction post with
 |nil=>
  intro i hd hi acc B kk hB hl T hT
  have hge:=bf hd
  rw[show acc++allNames []=acc by simp[allNames]]
  exact CU vs acc B kk hB (by omega) T i hge hT
 |cons v post ih=>
  intro i hd hi acc B kk hB hl T hT
  have hlt:=bg hd
  have cq:=aL hd
  have hvl:=hs v (eo hd)
  have R8:cc 1 (.sl .sh (vs.map di)) (.int .i64 (i:Nat))=some (.ref [di v]):=bx (f:=di) hd rfl
  have inner:∀(ip:List aH)(j:Nat)(hj:v.drop j=ip)(hj0:j≤v.length)(acc:List (List UInt8))(B:List (List AV))(kk:Nat)(hB:acc=[]∨B[kk]?=some (acc.map .str))(hl:acc.length≤100*i+j)(T:Env)
   (hT:Has T [(3,rM kk acc),(8,.sl .sh (vs.map di)),(9,.int .i64 vs.length),(10,.int .i64 i),(14,di v),(15,.int .i64 v.length),(16,.int .i64 j)]),bA cfg Cl u5 T ⟨B,[],[]⟩ (CT (acc++(ip.map aH.name++allNames post))):=by
   intro ip
   induction ip with
   |nil=>
    intro j hj hj0 acc B kk hB hl T hT
    have hge:=bf hj
    have cQ:=ih (i+1) cq hlt acc B kk hB (by omega)
    rw[List.map_nil,List.nil_append]
    exact gG 60 _ hT (.no (dF ((↑j:Int)<(↑v.length:Int)))<|.bin (iI i)<|.aT uZ [(3,rM kk acc),(8,.sl .sh (vs.map di)),(9,.int .i64 (↑vs.length)),(10,.int .i64 (↑(i+1)))] ({boxes:=B,toks:=[],loops:=[]:Heap}) (fun T hT=>(cQ T hT)))
   |cons x ip SE=>
    intro j hj hj0 acc B kk hB hl T hT
    have JI:=bg hj
    have JJ:=aL hj
    have cn:cc 2 (di v) (.int .i64 (j:Nat))=some (.ref [.str x.name,.int .i64 x.n]):=bx (f:=ai) hj rfl
    have e:acc++((x::ip).map aH.name++allNames post)=(acc++[x.name])++(ip.map aH.name++allNames post):=by simp
    rw[e]
    cases acc with
    |nil=>
     have ap:=tN (es:=1) (b:=16) (B:=B++[(ai x).cells]) (tk:=[]) (ls:=[]) (v:=.str x.name) (sk:=.full) rfl rfl (by omega)
     have cQ:=SE (j+1) JJ JI [x.name] (B++[(ai x).cells]++[[AV.str x.name]]) (B++[(ai x).cells]).length (.inr (by simp)) (by simp;omega)
     exact let ag:Heap:={boxes:=B++[[AV.str x.name,.int .i64 x.n]],toks:=[],loops:=[]:Heap};gG 90 _ hT (.yes (dT ((↑j:Int)<(↑v.length:Int)))<|.idx cn<|.load (rfl:ak true 2 {boxes:=B,toks:=[],loops:=[]:Heap} (.ref [.str x.name,.int .i64 x.n])=some (.agg [.str x.name,.int .i64 x.n]))<|.store (show aW 2 {boxes:=B++[[AV.str [],.int .i64 0]],toks:=[],loops:=[]:Heap} (.ptr B.length 0) (.agg [.str x.name,.int .i64 x.n])=some (ag)from aC (cs:=[.str [],.int .i64 0]) (cs':=[.str x.name,.int .i64 x.n]) (by simp+zetaDelta) rfl (by simp+zetaDelta [List.set_append]))<|.load (lB false 1 ag B.length 0 (.str x.name) [.str x.name,.int .i64 x.n])<|.cw ap<|.bin (iI j)<|.aT u5 [(3,.cY (B++[[AV.str x.name,.int .i64 x.n]]).length 0 1 1),(8,.sl .sh (vs.map di)),(9,.int .i64 (↑vs.length)),(10,.int .i64 ↑i),(14,.sl .sh (v.map ai)),(15,.int .i64 (↑v.length)),(16,.int .i64 (↑(j+1):Int))] ({boxes:=B++[[AV.str x.name,.int .i64 x.n]]++[[AV.str x.name]],toks:=[],loops:=[]:Heap}) (fun T hT=>(cQ T hT)))
    |cons y l=>
     have hk:B[kk]?=some ((y::l).map .str):=by simpa using hB
     have hk2:(B++[(ai x).cells])[kk]?=some ((y::l).map .str):=by rw[List.getElem?_append_left (List.getElem?_eq_some_iff.1 hk).1,hk]
     have ap:=rC (es:=1) (b:=16) (n:=l.length+1) (tk:=[]) (ls:=[]) (v:=.str x.name) (sk:=.full) hk2 (by simp) (by omega) (l6 _) rfl rfl (by simp at hl;omega)
     obtain⟨D,hD⟩:∃D,D=(y::l).map AV.str++(AV.str x.name).cells:=⟨_,rfl⟩
     rw[←hD]at ap
     have cQ:=SE (j+1) JJ JI ((y::l)++[x.name]) ((B++[(ai x).cells]).set kk []++[D]) (B++[(ai x).cells]).length (.inr (by
      rw[List.getElem?_append_right (by simp),hD];simp[AV.cells])) (by simp at hl⊢;omega)
     have er:rM (B++[(ai x).cells]).length ((y::l)++[x.name])=.cY (B++[(ai x).cells]).length 0 (l.length+1+1) 1:=by simp[rM]
     rw[er]at cQ
     exact let ag:Heap:={boxes:=(B++[(ai x).cells]).set kk []++[D],toks:=[],loops:=[]:Heap};let ax:Heap:={boxes:=B++[[AV.str x.name,.int .i64 x.n]],toks:=[],loops:=[]:Heap};gG 90 _ hT (.yes (dT ((↑j:Int)<(↑v.length:Int)))<|.idx cn<|.load (rfl:ak true 2 {boxes:=B,toks:=[],loops:=[]:Heap} (.ref [.str x.name,.int .i64 x.n])=some (.agg [.str x.name,.int .i64 x.n]))<|.store (show aW 2 {boxes:=B++[[AV.str [],.int .i64 0]],toks:=[],loops:=[]:Heap} (.ptr B.length 0) (.agg [.str x.name,.int .i64 x.n])=some (ax)from aC (cs:=[.str [],.int .i64 0]) (cs':=[.str x.name,.int .i64 x.n]) (by simp+zetaDelta) rfl (by simp+zetaDelta [List.set_append]))<|.load (lB false 1 ax B.length 0 (.str x.name) [.str x.name,.int .i64 x.n])<|.cw ap<|.bin (iI j)<|.aT u5 [(3,.cY (B++[[AV.str x.name,.int .i64 x.n]]).length 0 (l.length+1+1) 1),(8,.sl .sh (vs.map di)),(9,.int .i64 (↑vs.length)),(10,.int .i64 ↑i),(14,.sl .sh (v.map ai)),(15,.int .i64 (↑v.length)),(16,.int .i64 (↑(j+1):Int))] (ag) (fun T hT=>(cQ T hT)))
  have h2:=inner v 0 rfl (Nat.zero_le _) acc B kk hB (by omega)
  rw[jH]
  exact let ag:Heap:={boxes:=B,toks:=[],loops:=[]:Heap};gG 60 _ hT (.yes (dT ((↑i:Int)<(↑vs.length:Int)))<|.idx R8<|.load (rfl:ak false 1 ag (.ref [.sl .sh (v.map ai)])=some (.sl .sh (v.map ai)))<|.len (lM .sh ai v)<|.aT u5 [(3,rM kk acc),(8,.sl .sh (vs.map di)),(9,.int .i64 (↑vs.length)),(10,.int .i64 ↑i),(14,.sl .sh (v.map ai)),(15,.int .i64 (↑v.length)),(16,.int .i64 0)] (ag) (fun T hT=>(h2 T hT)))
theorem CW(vs:List (List aH))(hv:vs.length≤100)(hs:∀v∈vs,v.length≤100):kg cfg 273 [.sl .sh (vs.map di)] (.sl .sh ((cy (allNames vs)).map .str)):=by
 refine kg.run (U4 _ _) ?_
 have h:=xJ vs hv hs vs 0 rfl (Nat.zero_le _) [] [] 0 (.inl rfl) (by simp)
 exact gG 60 [] trivial (.len (lM .sh di vs)<|.aT uZ [(3,.sl .full []),(8,.sl .sh (vs.map di)),(9,.int .i64 (↑vs.length)),(10,.int .i64 0)] ({boxes:=[],toks:=[],loops:=[]:Heap}) (fun T hT=>(h T hT)))
end Go.Aa.T

