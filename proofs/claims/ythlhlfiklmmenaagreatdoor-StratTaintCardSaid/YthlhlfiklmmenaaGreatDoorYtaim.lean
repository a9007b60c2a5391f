/-
  WHAT THE LAW LEANS ON, part 13 of 13: a machine of values and its soundness; the functions of the law upon it; what they come to.
-/
import Derived.Test.YthlhlfiklmmenaaGreatDoorYtail
import Derived.Shelf.Sort.Plain
import Derived.Shelf.Slices.In.SortNone
import Derived.Shelf.Small.Strs
import Derived.Shelf.Spec.SlicesInsertGrow
import Derived.JoinedOf
set_option linter.unusedVariables false
set_option linter.unusedSimpArgs false
set_option maxRecDepth 100000
namespace Go.Aa.T
open Go.Aa Go.Proofs
def isB(s:St)(lo hi:AV)(why:Int)(p:Pod):Bool:=
 if why=1 then wtB s p else if why=2 then nmB (badS s) p.name else if why=3 then twB s p else if why=4 then lvN s p.node lo hi==2
 else if why=5 then s.nodes.any (mrP s lo hi)&&lvN s p.node lo hi==0 else false
def foundB(s:St)(lo hi:AV)(why:Int)(p:Pod):Bool:= !(p.node==[])&&(!p.hold&&isB s lo hi why p)
def oneL(s:St)(lo hi:AV)(why:Int)(l:List Pod):List (List UInt8):=(l.filter (foundB s lo hi why)).map Pod.name
def oneS(s:St)(lo hi:AV)(why:Int):List (List UInt8):=oneL s lo hi why s.pods
theorem one_yes{s:St}{lo hi:AV}{why:Int}{p:Pod}{l:List Pod}(h:foundB s lo hi why p=true):oneL s lo hi why (p::l)=p.name::oneL s lo hi why l:=by simp[oneL,List.filter_cons,h]
theorem one_no{s:St}{lo hi:AV}{why:Int}{p:Pod}{l:List Pod}(h:foundB s lo hi why p=false):oneL s lo hi why (p::l)=oneL s lo hi why l:=by simp[oneL,List.filter_cons,h]
theorem oneS_len(s:St)(lo hi:AV)(why:Int):(oneS s lo hi why).length≤s.pods.length:=by
 unfold oneS oneL
 rw[List.length_map];exact List.length_filter_le _ _
theorem bad_call{s:St}{lo hi:AV}{why:Int}{g:FuncId}{k1 k2 o1 o2:Nat}{c1 c2:List AV}{B1 B2:List (List AV)}(hl:Fl lo)(hh:Fl hi)(h0:lim cfg (.fn 70) [encSt s,.int .i64 why,.agg [lo,hi]] Heap.nil=some (.ret (.func g (.ptr k1 o1::c1)),⟨B1,[],[]⟩))
 (h1:lim cfg (.fn 70) [encSt s,.int .i64 why,.agg [lo,hi]] ⟨[(encSt s).cells,[lo,hi]],[],[]⟩=some (.ret (.func g (.ptr k2 o2::c2)),⟨B2,[],[]⟩))(hk:2≤k2):
 Does cfg (.call (.c (.func 70 [])) [.c (encSt s),.c (.int .i64 why),.c (.agg [lo,hi])]) ⟨[(encSt s).cells,[lo,hi]],[],[]⟩ (.func g (.ptr k2 o2::c2)) ⟨B2,[],[]⟩:=by
 have hd:=_root_.Go.Aa.does_callN (cfg:=cfg) (xs:=[encSt s,.int .i64 why,.agg [lo,hi]]) h0 (by rfl) h1 (by
  show [encSt s,.int .i64 why,.agg [Go.Aa.shut1 lo,Go.Aa.shut1 hi]]=_
  rw[hl.sh1,hh.sh1]) (by
  show(true&&(true&&((Go.Aa.data0 lo&&(Go.Aa.data0 hi&&true))&&true)))=true
  rw[hl.d0,hh.d0];rfl)
 rw[show shutA (.func g (.ptr k2 o2::c2))=.func g (.ptr k2 o2::c2)from rfl]at hd
 rw[show(⟨[(encSt s).cells,[lo,hi]],[],[]⟩:Heap).boxes.length=2 from rfl,show(⟨[(encSt s).cells,[lo,hi]],[],[]⟩:Heap).toks.length=0 from rfl,trunc_fn hk]at hd
 exact hd
theorem bad_1(s:St){lo hi:AV}(hl:Fl lo)(hh:Fl hi):Does cfg (.call (.c (.func 70 [])) [.c (encSt s),.c (.int .i64 1),.c (.agg [lo,hi])]) ⟨[(encSt s).cells,[lo,hi]],[],[]⟩ (.func 136 [.ptr 2 0]) ⟨[(encSt s).cells,[lo,hi],(encSt s).cells,[lo,hi]],[],[]⟩:=by
 have k0:Goes cfg a70 [.c c70] (initEnv [encSt s,.int .i64 1,.agg [lo,hi]]) Heap.nil (fun r=>r=(.ret (.func 136 [.ptr 0 0]),⟨[(encSt s).cells,[lo,hi]],[],[]⟩)):=by
  exact gG 120 [] trivial (.tt<|.fin ((.ret (.func 136 [.ptr 0 0]),{boxes:=[[.sl .sh (s.nodes.map encN),.sl .sh (s.pods.map encPd),.sl .sh (s.buds.map encB)],[lo,hi]],toks:=[],loops:=[]:Heap})) rfl)
 have k1:Goes cfg a70 [.c c70] (initEnv [encSt s,.int .i64 1,.agg [lo,hi]]) ⟨[(encSt s).cells,[lo,hi]],[],[]⟩ (fun r=>r=(.ret (.func 136 [.ptr 2 0]),⟨[(encSt s).cells,[lo,hi],(encSt s).cells,[lo,hi]],[],[]⟩)):=by
  exact let ζ1:List AV:=[.sl .sh (s.nodes.map encN),.sl .sh (s.pods.map encPd),.sl .sh (s.buds.map encB)];gG 120 [] trivial (.tt<|.fin ((.ret (.func 136 [.ptr 2 0]),{boxes:=[ζ1,[lo,hi],ζ1,[lo,hi]],toks:=[],loops:=[]:Heap})) rfl)
 obtain⟨_,h0,rfl⟩:=k0
 obtain⟨_,h1,rfl⟩:=k1
 exact bad_call hl hh (by rw[l70];exact h0) (by rw[l70];exact h1) (by omega)
theorem bad_2(s:St){lo hi:AV}(hl:Fl lo)(hh:Fl hi)(hb:Gives cfg 137 [encSt s] (rowF .str (badS s))):Does cfg (.call (.c (.func 70 [])) [.c (encSt s),.c (.int .i64 2),.c (.agg [lo,hi])]) ⟨[(encSt s).cells,[lo,hi]],[],[]⟩ (.func 138 [.ptr 4 0]) ⟨[(encSt s).cells,[lo,hi],(encSt s).cells,[lo,hi],[.sl .sh ((badS s).map .str)]],[],[]⟩:=by
 generalize badS s=l at hb⊢
 have k0:Goes cfg a70 [.c c70] (initEnv [encSt s,.int .i64 2,.agg [lo,hi]]) Heap.nil (fun r=>r=(.ret (.func 138 [.ptr 2 0]),⟨[(encSt s).cells,[lo,hi],[.sl .sh (l.map .str)]],[],[]⟩)):=by
  exact let ζ1:List AV:=[.sl .sh (s.nodes.map encN),.sl .sh (s.pods.map encPd),.sl .sh (s.buds.map encB)];gG 120 [] trivial (.ff<|.tt<|.callG ([.agg ζ1]) (.sl .sh (List.map .str l)) hb ⟨rfl,rfl⟩ Res.p<|.fin ((.ret (.func 138 [.ptr 2 0]),{boxes:=[ζ1,[lo,hi],[.sl .sh (List.map .str l)]],toks:=[],loops:=[]:Heap})) rfl)
 have k1:Goes cfg a70 [.c c70] (initEnv [encSt s,.int .i64 2,.agg [lo,hi]]) ⟨[(encSt s).cells,[lo,hi]],[],[]⟩ (fun r=>r=(.ret (.func 138 [.ptr 4 0]),⟨[(encSt s).cells,[lo,hi],(encSt s).cells,[lo,hi],[.sl .sh (l.map .str)]],[],[]⟩)):=by
  exact let ζ1:List AV:=[.sl .sh (s.nodes.map encN),.sl .sh (s.pods.map encPd),.sl .sh (s.buds.map encB)];gG 120 [] trivial (.ff<|.tt<|.callG ([.agg ζ1]) (.sl .sh (List.map .str l)) hb ⟨rfl,rfl⟩ Res.p<|.fin ((.ret (.func 138 [.ptr 4 0]),{boxes:=[ζ1,[lo,hi],ζ1,[lo,hi],[.sl .sh (List.map .str l)]],toks:=[],loops:=[]:Heap})) rfl)
 obtain⟨_,h0,rfl⟩:=k0
 obtain⟨_,h1,rfl⟩:=k1
 exact bad_call hl hh (by rw[l70];exact h0) (by rw[l70];exact h1) (by omega)
theorem bad_3(s:St){lo hi:AV}(hl:Fl lo)(hh:Fl hi):Does cfg (.call (.c (.func 70 [])) [.c (encSt s),.c (.int .i64 3),.c (.agg [lo,hi])]) ⟨[(encSt s).cells,[lo,hi]],[],[]⟩ (.func 140 [.ptr 2 0]) ⟨[(encSt s).cells,[lo,hi],(encSt s).cells,[lo,hi]],[],[]⟩:=by
 have k0:Goes cfg a70 [.c c70] (initEnv [encSt s,.int .i64 3,.agg [lo,hi]]) Heap.nil (fun r=>r=(.ret (.func 140 [.ptr 0 0]),⟨[(encSt s).cells,[lo,hi]],[],[]⟩)):=by
  exact gG 120 [] trivial (.ff<|.ff<|.tt<|.fin ((.ret (.func 140 [.ptr 0 0]),{boxes:=[[.sl .sh (s.nodes.map encN),.sl .sh (s.pods.map encPd),.sl .sh (s.buds.map encB)],[lo,hi]],toks:=[],loops:=[]:Heap})) rfl)
 have k1:Goes cfg a70 [.c c70] (initEnv [encSt s,.int .i64 3,.agg [lo,hi]]) ⟨[(encSt s).cells,[lo,hi]],[],[]⟩ (fun r=>r=(.ret (.func 140 [.ptr 2 0]),⟨[(encSt s).cells,[lo,hi],(encSt s).cells,[lo,hi]],[],[]⟩)):=by
  exact let ζ1:List AV:=[.sl .sh (s.nodes.map encN),.sl .sh (s.pods.map encPd),.sl .sh (s.buds.map encB)];gG 120 [] trivial (.ff<|.ff<|.tt<|.fin ((.ret (.func 140 [.ptr 2 0]),{boxes:=[ζ1,[lo,hi],ζ1,[lo,hi]],toks:=[],loops:=[]:Heap})) rfl)
 obtain⟨_,h0,rfl⟩:=k0
 obtain⟨_,h1,rfl⟩:=k1
 exact bad_call hl hh (by rw[l70];exact h0) (by rw[l70];exact h1) (by omega)
theorem bad_4(s:St){lo hi:AV}(hl:Fl lo)(hh:Fl hi):Does cfg (.call (.c (.func 70 [])) [.c (encSt s),.c (.int .i64 4),.c (.agg [lo,hi])]) ⟨[(encSt s).cells,[lo,hi]],[],[]⟩ (.func 143 [.ptr 2 0,.ptr 3 0]) ⟨[(encSt s).cells,[lo,hi],(encSt s).cells,[lo,hi]],[],[]⟩:=by
 have k0:Goes cfg a70 [.c c70] (initEnv [encSt s,.int .i64 4,.agg [lo,hi]]) Heap.nil (fun r=>r=(.ret (.func 143 [.ptr 0 0,.ptr 1 0]),⟨[(encSt s).cells,[lo,hi]],[],[]⟩)):=by
  exact gG 120 [] trivial (.ff<|.ff<|.ff<|.tt<|.fin ((.ret (.func 143 [.ptr 0 0,.ptr 1 0]),{boxes:=[[.sl .sh (s.nodes.map encN),.sl .sh (s.pods.map encPd),.sl .sh (s.buds.map encB)],[lo,hi]],toks:=[],loops:=[]:Heap})) rfl)
 have k1:Goes cfg a70 [.c c70] (initEnv [encSt s,.int .i64 4,.agg [lo,hi]]) ⟨[(encSt s).cells,[lo,hi]],[],[]⟩ (fun r=>r=(.ret (.func 143 [.ptr 2 0,.ptr 3 0]),⟨[(encSt s).cells,[lo,hi],(encSt s).cells,[lo,hi]],[],[]⟩)):=by
  exact let ζ1:List AV:=[.sl .sh (s.nodes.map encN),.sl .sh (s.pods.map encPd),.sl .sh (s.buds.map encB)];gG 120 [] trivial (.ff<|.ff<|.ff<|.tt<|.fin ((.ret (.func 143 [.ptr 2 0,.ptr 3 0]),{boxes:=[ζ1,[lo,hi],ζ1,[lo,hi]],toks:=[],loops:=[]:Heap})) rfl)
 obtain⟨_,h0,rfl⟩:=k0
 obtain⟨_,h1,rfl⟩:=k1
 exact bad_call hl hh (by rw[l70];exact h0) (by rw[l70];exact h1) (by omega)
theorem bad_5(s:St)(h:StB s){lo hi:AV}(hl:Fl lo)(hh:Fl hi):Does cfg (.call (.c (.func 70 [])) [.c (encSt s),.c (.int .i64 5),.c (.agg [lo,hi])]) ⟨[(encSt s).cells,[lo,hi]],[],[]⟩ (.func 146 [.ptr 4 0,.ptr 2 0,.ptr 3 0]) ⟨[(encSt s).cells,[lo,hi],(encSt s).cells,[lo,hi],[.bool (s.nodes.any (mrP s lo hi))]],[],[]⟩:=by
 have d0:=anyNd (fun y=>cl145 s h hl hh [] y) s.nodes h.ins.nodes
 have d1:=anyNd (fun y=>cl145b s h hl hh [] y) s.nodes h.ins.nodes
 generalize s.nodes.any (mrP s lo hi)=m at d0 d1⊢
 have k0:Goes cfg a70 [.c c70] (initEnv [encSt s,.int .i64 5,.agg [lo,hi]]) Heap.nil (fun r=>r=(.ret (.func 146 [.ptr 2 0,.ptr 0 0,.ptr 1 0]),⟨[(encSt s).cells,[lo,hi],[.bool m]],[],[]⟩)):=by
  exact let ζ1:Heap:={boxes:=[(encSt s).cells,[lo,hi]],toks:=[],loops:=[]:Heap};gG 120 [] trivial (.ff<|.ff<|.ff<|.ff<|.tt<|.effY d0<|.fin ((.ret (.func 146 [.ptr 2 0,.ptr 0 0,.ptr 1 0]),{boxes:=[[.sl .sh (s.nodes.map encN),.sl .sh (s.pods.map encPd),.sl .sh (s.buds.map encB)],[lo,hi],[.bool m]],toks:=[],loops:=[]:Heap})) rfl)
 have k1:Goes cfg a70 [.c c70] (initEnv [encSt s,.int .i64 5,.agg [lo,hi]]) ⟨[(encSt s).cells,[lo,hi]],[],[]⟩ (fun r=>r=(.ret (.func 146 [.ptr 4 0,.ptr 2 0,.ptr 3 0]),⟨[(encSt s).cells,[lo,hi],(encSt s).cells,[lo,hi],[.bool m]],[],[]⟩)):=by
  exact let ζ1:List AV:=[.sl .sh (s.nodes.map encN),.sl .sh (s.pods.map encPd),.sl .sh (s.buds.map encB)];let ζ2:Heap:={boxes:=[(encSt s).cells,[lo,hi],(encSt s).cells,[lo,hi]],toks:=[],loops:=[]:Heap};gG 120 [] trivial (.ff<|.ff<|.ff<|.ff<|.tt<|.effY d1<|.fin ((.ret (.func 146 [.ptr 4 0,.ptr 2 0,.ptr 3 0]),{boxes:=[ζ1,[lo,hi],ζ1,[lo,hi],[.bool m]],toks:=[],loops:=[]:Heap})) rfl)
 obtain⟨_,h0,rfl⟩:=k0
 obtain⟨_,h1,rfl⟩:=k1
 exact bad_call hl hh (by rw[l70];exact h0) (by rw[l70];exact h1) (by omega)
theorem bad_0(s:St)(h:StB s){lo hi:AV}(hl:Fl lo)(hh:Fl hi){why:Int}(h1:¬why=1)(h2:¬why=2)(h3:¬why=3)(h4:¬why=4)(h5:¬why=5):Gives cfg 70 [encSt s,.int .i64 why,.agg [lo,hi]] (.func 147 []):=by
 refine Gives.run (l70 _ _) ?_
 exact gG 120 [] trivial (.no (show(why==(1:Int))=false from Bool.eq_false_iff.2 (by simp[h1]))<|.no (show(why==(2:Int))=false from Bool.eq_false_iff.2 (by simp[h2]))<|.no (show(why==(3:Int))=false from Bool.eq_false_iff.2 (by simp[h3]))<|.no (show(why==(4:Int))=false from Bool.eq_false_iff.2 (by simp[h4]))<|.no (show(why==(5:Int))=false from Bool.eq_false_iff.2 (by simp[h5]))<|.fin ((.ret (.func 147 []),{boxes:=[[.sl .sh (s.nodes.map encN),.sl .sh (s.pods.map encPd),.sl .sh (s.buds.map encB)],[lo,hi]],toks:=[],loops:=[]:Heap})) rfl)
theorem cl147(x:Pod):Gives cfg 147 [encPd x] (.bool false):=by
 refine Gives.run (l147 _ _) ?_
 exact gG 30 [] trivial (.fin ((.ret (.bool false),{boxes:=[[.str x.name,.str x.owner,.int .i64 x.prio,.sl .sh (x.need.map encA),.sl .sh (x.labels.map encP),.sl .sh (x.sel.map encM),.sl .sh (x.tols.map encL),.str x.key,.int .i64 x.most,.str x.node,.bool x.hold]],toks:=[],loops:=[]:Heap})) rfl)
theorem one_loop(s:St)(hs:s.pods.length≤1000){lo hi:AV}(fv:AV)(why:Int)(Pr:List (List AV)→Prop)(hP:∀ex(x:Pod),Pr ex→Pr (ex++[(encPd x).cells]))
 (hc:∀tk ex(x:Pod),Pr ex→x∈s.pods→Does cfg (.call (.c fv) [.c (encPd x)]) ⟨(encSt s).cells::[lo,hi]::ex,tk,[]⟩ (.bool (isB s lo hi why x)) ⟨(encSt s).cells::[lo,hi]::ex,tk,[]⟩):
 ∀(post:List Pod)(i:Nat)(hd:s.pods.drop i=post)(acc:List (List UInt8))(ha:acc.length≤i)(ex:List (List AV))(he:Pr ex)(T:Env)
 (hT:Has T [(3,.ptr 0 0),(7,fv),(8,rowF .str acc),(16,.sl .sh (s.pods.map encPd)),(17,.int .i64 s.pods.length),(18,.int .i64 i)]),
 Goes cfg a30 k30_0 T ⟨(encSt s).cells::[lo,hi]::ex,tkR .str acc,[]⟩ (IsRet (rowF .str (acc++oneL s lo hi why post))):=by
 intro post
 induction post with
 |nil=>
  intro i hd acc ha ex he T hT
  have hge:=drop_ge hd
  rw[show acc++oneL s lo hi why []=acc by simp[oneL]]
  exact gG 60 _ hT (.no (dF ((↑i:Int)<(↑s.pods.length:Int)))<|.fin ((.ret (.sl (skF acc) (List.map .str acc)),{boxes:=[.sl .sh (s.nodes.map encN),.sl .sh (s.pods.map encPd),.sl .sh (s.buds.map encB)]::[lo,hi]::ex,toks:=tkR .str acc,loops:=[]:Heap})) rfl)
 |cons x post ih=>
  intro i hd acc ha ex he T hT
  have hlt:=drop_lt hd
  have hnx:=drop_next hd
  have hxi:idxA 11 (.sl .sh (s.pods.map encPd)) (.int .i64 (i:Nat))=some (.ref (encPd x).cells):=idx_row (f:=encPd) hd rfl
  have he':=hP ex x he
  have ap:=ap_S (acc:=acc) x.name (by omega)
  have no:=ih (i+1) hnx acc (by omega) (ex++[(encPd x).cells]) he'
  have yes:=ih (i+1) hnx (acc++[x.name]) (by simp;omega) (ex++[(encPd x).cells]) he'
  by_cases h1:x.node=[]
  ·have e:foundB s lo hi why x=false:=by simp[foundB,h1]
   rw[one_no e]
   exact let ζ1:List AV:=[.str x.name,.str x.owner,.int .i64 x.prio,.sl .sh (x.need.map encA),.sl .sh (x.labels.map encP),.sl .sh (x.sel.map encM),.sl .sh (x.tols.map encL),.str x.key,.int .i64 x.most,.str x.node,.bool x.hold];let ζ2:List AV:=[.sl .sh (s.nodes.map encN),.sl .sh (s.pods.map encPd),.sl .sh (s.buds.map encB)];let ζ3:Heap:={boxes:=ζ2::[lo,hi]::(ex++[ζ1]),toks:=tkR .str acc,loops:=[]:Heap};let ζ4:List AV:=[.str [],.str [],.int .i64 0,.sl .full [],.sl .full [],.sl .full [],.sl .full [],.str [],.int .i64 0,.str [],.bool false];gG 160 _ hT (.yes (dT ((↑i:Int)<(↑s.pods.length:Int)))<|.idx hxi<|.load (rfl:loadA true 11 {boxes:=ζ2::[lo,hi]::ex,toks:=tkR .str acc,loops:=[]:Heap} (.ref ζ1)=some (.agg ζ1))<|.store (show storeA 11 {boxes:=ζ2::[lo,hi]::(ex++[ζ4]),toks:=tkR .str acc,loops:=[]:Heap} (.ptr (ζ2::[lo,hi]::ex).length 0) (.agg ζ1)=some (ζ3)from store_box2 (cs:=ζ4) (cs':=ζ1) (by simp+zetaDelta) rfl (by simp+zetaDelta [List.set_append]))<|.load (show loadA false 1 ζ3 (.ptr (ζ2::[lo,hi]::ex).length 9)=some (.str x.node)from load_box (cs:=ζ1) (by simp+zetaDelta) rfl)<|.no (show(!x.node==[])=false from by have hh:(x.node==[])=true:=(by simpa using h1);simp[hh])<|.ff<|.ff<|.bin (iI i)<|.cutQ k30_0 [(3,.ptr 0 0),(7,fv),(8,.sl (skF acc) (List.map .str acc)),(16,.sl .sh (s.pods.map encPd)),(17,.int .i64 (↑s.pods.length)),(18,.int .i64 (↑(i+1)))] (ζ3) (fun T hT=>(no T hT)))
  ·cases h2:x.hold with
   |true=>
    have e:foundB s lo hi why x=false:=by simp[foundB,h2]
    rw[one_no e]
    exact let ζ1:List AV:=[.str x.name,.str x.owner,.int .i64 x.prio,.sl .sh (x.need.map encA),.sl .sh (x.labels.map encP),.sl .sh (x.sel.map encM),.sl .sh (x.tols.map encL),.str x.key,.int .i64 x.most,.str x.node,.bool x.hold];let ζ2:List AV:=[.sl .sh (s.nodes.map encN),.sl .sh (s.pods.map encPd),.sl .sh (s.buds.map encB)];let ζ3:Heap:={boxes:=ζ2::[lo,hi]::(ex++[ζ1]),toks:=tkR .str acc,loops:=[]:Heap};let ζ4:List AV:=[.str [],.str [],.int .i64 0,.sl .full [],.sl .full [],.sl .full [],.sl .full [],.str [],.int .i64 0,.str [],.bool false];gG 160 _ hT (.yes (dT ((↑i:Int)<(↑s.pods.length:Int)))<|.idx hxi<|.load (rfl:loadA true 11 {boxes:=ζ2::[lo,hi]::ex,toks:=tkR .str acc,loops:=[]:Heap} (.ref ζ1)=some (.agg ζ1))<|.store (show storeA 11 {boxes:=ζ2::[lo,hi]::(ex++[ζ4]),toks:=tkR .str acc,loops:=[]:Heap} (.ptr (ζ2::[lo,hi]::ex).length 0) (.agg ζ1)=some (ζ3)from store_box2 (cs:=ζ4) (cs':=ζ1) (by simp+zetaDelta) rfl (by simp+zetaDelta [List.set_append]))<|.load (show loadA false 1 ζ3 (.ptr (ζ2::[lo,hi]::ex).length 9)=some (.str x.node)from load_box (cs:=ζ1) (by simp+zetaDelta) rfl)<|.yes (show(!x.node==[])=true from by have hh:¬((x.node==[])=true):=(by simpa using h1);simp[hh])<|.load (show loadA false 1 ζ3 (.ptr (ζ2::[lo,hi]::ex).length 10)=some (.bool x.hold)from load_box (cs:=ζ1) (by simp+zetaDelta) rfl)<|.no (show(!x.hold)=false from by have hh:x.hold=true:=(by omega);simp[hh])<|.ff<|.bin (iI i)<|.cutQ k30_0 [(3,.ptr 0 0),(7,fv),(8,.sl (skF acc) (List.map .str acc)),(16,.sl .sh (s.pods.map encPd)),(17,.int .i64 (↑s.pods.length)),(18,.int .i64 (↑(i+1)))] (ζ3) (fun T hT=>(no T hT)))
   |false=>
    have d:=hc (tkR .str acc) (ex++[(encPd x).cells]) x he' (drop_mem hd)
    cases h3:isB s lo hi why x with
    |true=>
     have e:foundB s lo hi why x=true:=by simp[foundB,h1,h2,h3]
     rw[one_yes e,show acc++x.name::oneL s lo hi why post=(acc++[x.name])++oneL s lo hi why post by simp]
     rw[h3]at d
     exact let ζ1:List AV:=[.str x.name,.str x.owner,.int .i64 x.prio,.sl .sh (x.need.map encA),.sl .sh (x.labels.map encP),.sl .sh (x.sel.map encM),.sl .sh (x.tols.map encL),.str x.key,.int .i64 x.most,.str x.node,.bool x.hold];let ζ2:List AV:=[.sl .sh (s.nodes.map encN),.sl .sh (s.pods.map encPd),.sl .sh (s.buds.map encB)];let ζ3:Heap:={boxes:=ζ2::[lo,hi]::(ex++[ζ1]),toks:=tkR .str acc,loops:=[]:Heap};let ζ4:List AV:=[.str [],.str [],.int .i64 0,.sl .full [],.sl .full [],.sl .full [],.sl .full [],.str [],.int .i64 0,.str [],.bool false];let ζ5:Heap:={boxes:=(encSt s).cells::[lo,hi]::(ex++[(encPd x).cells]),toks:=tkR .str acc,loops:=[]:Heap};let ζ6:Heap:={boxes:=ζ2::[lo,hi]::(ex++[ζ1]),toks:=tkR .str (acc++[x.name]),loops:=[]:Heap};gG 160 _ hT (.yes (dT ((↑i:Int)<(↑s.pods.length:Int)))<|.idx hxi<|.load (rfl:loadA true 11 {boxes:=ζ2::[lo,hi]::ex,toks:=tkR .str acc,loops:=[]:Heap} (.ref ζ1)=some (.agg ζ1))<|.store (show storeA 11 {boxes:=ζ2::[lo,hi]::(ex++[ζ4]),toks:=tkR .str acc,loops:=[]:Heap} (.ptr (ζ2::[lo,hi]::ex).length 0) (.agg ζ1)=some (ζ3)from store_box2 (cs:=ζ4) (cs':=ζ1) (by simp+zetaDelta) rfl (by simp+zetaDelta [List.set_append]))<|.load (show loadA false 1 ζ3 (.ptr (ζ2::[lo,hi]::ex).length 9)=some (.str x.node)from load_box (cs:=ζ1) (by simp+zetaDelta) rfl)<|.yes (show(!x.node==[])=true from by have hh:¬((x.node==[])=true):=(by simpa using h1);simp[hh])<|.load (show loadA false 1 ζ3 (.ptr (ζ2::[lo,hi]::ex).length 10)=some (.bool x.hold)from load_box (cs:=ζ1) (by simp+zetaDelta) rfl)<|.yes (show(!x.hold)=true from by have hh:¬(x.hold=true):=(by simp+zetaDelta [h2]);simp[hh])<|.load (show loadA true 11 ζ3 (.ptr (ζ2::[lo,hi]::ex).length 0)=some (.agg ζ1)from load_box (cs:=ζ1) (by simp+zetaDelta) rfl)<|.effY d<|.tt<|.load (show loadA false 1 ζ3 (.ptr (ζ2::[lo,hi]::ex).length 0)=some (.str x.name)from load_box (cs:=ζ1) (by simp+zetaDelta) rfl)<|.append (show appendA 1 16 ζ3 (.sl (skF acc) (List.map .str acc)) (.sl .full [.str x.name])=some ((rowF .str (acc++[x.name]),ζ6))from ap _ _)<|.bin (iI i)<|.cutQ k30_0 [(3,.ptr 0 0),(7,fv),(8,.sl (skF (acc++[x.name])) (List.map .str (acc++[x.name]))),(16,.sl .sh (s.pods.map encPd)),(17,.int .i64 (↑s.pods.length)),(18,.int .i64 (↑(i+1)))] (ζ6) (fun T hT=>(yes T hT)))
    |false=>
     have e:foundB s lo hi why x=false:=by simp[foundB,h3]
     rw[one_no e]
     rw[h3]at d
     exact let ζ1:List AV:=[.str x.name,.str x.owner,.int .i64 x.prio,.sl .sh (x.need.map encA),.sl .sh (x.labels.map encP),.sl .sh (x.sel.map encM),.sl .sh (x.tols.map encL),.str x.key,.int .i64 x.most,.str x.node,.bool x.hold];let ζ2:List AV:=[.sl .sh (s.nodes.map encN),.sl .sh (s.pods.map encPd),.sl .sh (s.buds.map encB)];let ζ3:Heap:={boxes:=ζ2::[lo,hi]::(ex++[ζ1]),toks:=tkR .str acc,loops:=[]:Heap};let ζ4:List AV:=[.str [],.str [],.int .i64 0,.sl .full [],.sl .full [],.sl .full [],.sl .full [],.str [],.int .i64 0,.str [],.bool false];let ζ5:Heap:={boxes:=(encSt s).cells::[lo,hi]::(ex++[(encPd x).cells]),toks:=tkR .str acc,loops:=[]:Heap};gG 160 _ hT (.yes (dT ((↑i:Int)<(↑s.pods.length:Int)))<|.idx hxi<|.load (rfl:loadA true 11 {boxes:=ζ2::[lo,hi]::ex,toks:=tkR .str acc,loops:=[]:Heap} (.ref ζ1)=some (.agg ζ1))<|.store (show storeA 11 {boxes:=ζ2::[lo,hi]::(ex++[ζ4]),toks:=tkR .str acc,loops:=[]:Heap} (.ptr (ζ2::[lo,hi]::ex).length 0) (.agg ζ1)=some (ζ3)from store_box2 (cs:=ζ4) (cs':=ζ1) (by simp+zetaDelta) rfl (by simp+zetaDelta [List.set_append]))<|.load (show loadA false 1 ζ3 (.ptr (ζ2::[lo,hi]::ex).length 9)=some (.str x.node)from load_box (cs:=ζ1) (by simp+zetaDelta) rfl)<|.yes (show(!x.node==[])=true from by have hh:¬((x.node==[])=true):=(by simpa using h1);simp[hh])<|.load (show loadA false 1 ζ3 (.ptr (ζ2::[lo,hi]::ex).length 10)=some (.bool x.hold)from load_box (cs:=ζ1) (by simp+zetaDelta) rfl)<|.yes (show(!x.hold)=true from by have hh:¬(x.hold=true):=(by simp+zetaDelta [h2]);simp[hh])<|.load (show loadA true 11 ζ3 (.ptr (ζ2::[lo,hi]::ex).length 0)=some (.agg ζ1)from load_box (cs:=ζ1) (by simp+zetaDelta) rfl)<|.effY d<|.ff<|.bin (iI i)<|.cutQ k30_0 [(3,.ptr 0 0),(7,fv),(8,.sl (skF acc) (List.map .str acc)),(16,.sl .sh (s.pods.map encPd)),(17,.int .i64 (↑s.pods.length)),(18,.int .i64 (↑(i+1)))] (ζ3) (fun T hT=>(no T hT)))
def PreB(pre ex:List (List AV)):Prop:=∃r,ex=pre++r∧r.all (·.all data0)=true
theorem preB_snoc{pre:List (List AV)}(ex:List (List AV))(x:Pod)(h:PreB pre ex):PreB pre (ex++[(encPd x).cells]):=by
 obtain⟨r,rfl,hr⟩:=h
 exact⟨r++[(encPd x).cells],by simp,by rw[List.all_append,hr];rfl⟩
theorem one_end(s:St)(hs:s.pods.length≤1000){lo hi:AV}(hl:Fl lo)(hh:Fl hi){fv:AV}{why:Int}{pre:List (List AV)}(hb:Does cfg (.call (.c (.func 70 [])) [.c (encSt s),.c (.int .i64 why),.c (.agg [lo,hi])]) ⟨[(encSt s).cells,[lo,hi]],[],[]⟩ fv ⟨(encSt s).cells::[lo,hi]::pre,[],[]⟩)
 (hc:∀tk r(x:Pod),r.all (·.all data0)=true→x∈s.pods→Does cfg (.call (.c fv) [.c (encPd x)]) ⟨(encSt s).cells::[lo,hi]::(pre++r),tk,[]⟩ (.bool (isB s lo hi why x)) ⟨(encSt s).cells::[lo,hi]::(pre++r),tk,[]⟩):
 Gives cfg 30 [encSt s,.int .i64 why,.agg [lo,hi]] (rowF .str (oneS s lo hi why)):=by
 refine Gives.run (l30 _ _) ?_
 have lo':=one_loop s hs (lo:=lo) (hi:=hi) fv why (PreB pre) (fun ex x=>preB_snoc ex x) (fun tk ex x he hx=>by
  obtain⟨r,rfl,hr⟩:=he
  exact hc tk r x hr hx) s.pods 0 rfl [] (by simp) pre ⟨[],by simp,rfl⟩
 have e:rowF AV.str ([]:List (List UInt8))=.sl .full []:=rfl
 rw[e,tk_nil,List.nil_append]at lo'
 rw[show oneS s lo hi why=oneL s lo hi why s.pods from rfl]
 exact let ζ1:List AV:=[.sl .sh (s.nodes.map encN),.sl .sh (s.pods.map encPd),.sl .sh (s.buds.map encB)];let ζ2:Heap:={boxes:=ζ1::[lo,hi]::pre,toks:=[],loops:=[]:Heap};gG 120 [] trivial (.effY hb<|.load (lB false 1 ζ2 0 1 (.sl .sh (s.pods.map encPd)) ζ1)<|.len (lM .sh encPd s.pods)<|.cutQ k30_0 [(3,.ptr 0 0),(7,fv),(8,.sl .full []),(16,.sl .sh (s.pods.map encPd)),(17,.int .i64 (↑s.pods.length)),(18,.int .i64 0)] (ζ2) (fun T hT=>(lo' T hT)))
theorem one_any(s:St)(h:StB s){lo hi:AV}(hl:Fl lo)(hh:Fl hi)(why:Int):Gives cfg 30 [encSt s,.int .i64 why,.agg [lo,hi]] (rowF .str (oneS s lo hi why)):=by
 have hp:=h.ins.pods
 have hn:=h.nodes
 by_cases h1:why=1
 ·subst h1
  refine one_end s hp hl hh (bad_1 s hl hh) fun tk r x hr hx=> ?_
  rw[show isB s lo hi 1 x=wtB s x from rfl]
  exact cl136 s h hl hh tk r hr x (h.pd x hx)
 by_cases h2:why=2
 ·subst h2
  have hb:=bad_any s hp (by omega) fun n hn=>(h.nd n hn).labels
  refine one_end s hp hl hh (bad_2 s hl hh hb) fun tk r x hr hx=> ?_
  rw[show isB s lo hi 2 x=nmB (badS s) x.name from rfl]
  have:=badS_len s
  exact cl138 s h hl hh tk (badS s) (by omega) r hr x
 by_cases h3:why=3
 ·subst h3
  refine one_end s hp hl hh (bad_3 s hl hh) fun tk r x hr hx=> ?_
  rw[show isB s lo hi 3 x=twB s x from rfl]
  exact cl140 s h hl hh tk r hr x
 by_cases h4:why=4
 ·subst h4
  refine one_end s hp hl hh (bad_4 s hl hh) fun tk r x hr hx=> ?_
  rw[show isB s lo hi 4 x=(lvN s x.node lo hi==2)from rfl]
  exact cl143 s h hl hh tk r hr x
 by_cases h5:why=5
 ·subst h5
  refine one_end s hp hl hh (bad_5 s h hl hh) fun tk r x hr hx=> ?_
  rw[show isB s lo hi 5 x=(s.nodes.any (mrP s lo hi)&&lvN s x.node lo hi==0)from rfl]
  exact cl146 s h hl hh tk _ r hr x
 refine one_end (fv:=.func 147 []) (pre:=[]) s hp hl hh ?_ fun tk r x hr hx=> ?_
 ·have g:=bad_0 s h hl hh h1 h2 h3 h4 h5
  obtain⟨H',hg⟩:=g.ret
  intro T
  have hd:=(does_data (g:=70) ⟨_,hg,rfl⟩ [encSt s,.int .i64 why,.agg [lo,hi]] (by
   show [encSt s,.int .i64 why,.agg [Go.Aa.shut1 lo,Go.Aa.shut1 hi]]=_
   rw[hl.sh1,hh.sh1]) (by
   show(true&&(true&&((Go.Aa.data0 lo&&(Go.Aa.data0 hi&&true))&&true)))=true
   rw[hl.d0,hh.d0];rfl) rfl rfl ⟨[(encSt s).cells,[lo,hi]],[],[]⟩).1
  exact hd T
 ·rw[show isB s lo hi why x=false by simp[isB,h1,h2,h3,h4,h5]]
  exact(does_data (cl147 x) [encPd x] rfl rfl rfl rfl _).1
end Go.Aa.T
set_option linter.unusedVariables false
set_option linter.unusedSimpArgs false
set_option maxRecDepth 100000
namespace Go.Aa.T
open Go.Aa Go.Proofs
instance(o:Option Node):Res (findNV o) (.tuple [encN (o.getD noN),.bool o.isSome]):=⟨by cases o<;>exact⟨rfl,rfl⟩⟩
end Go.Aa.T
set_option linter.unusedVariables false
set_option linter.unusedSimpArgs false
set_option maxRecDepth 100000
namespace Go.Aa.T
open Go.Aa Go.Proofs
theorem of_cls0{u c:Int}(h0:0≤u)(h:0<c)(hu:u≤9223372036854775807)(hc:c≤9223372036854775807):cls (ofA u c)=if u=0 then 3 else 4:=by
 rw[ofA_cls (by omega) (by omega),if_neg (by omega)]
 by_cases e:u=0
 ·rw[if_pos e,if_pos e,if_neg (by omega)]
 ·rw[if_neg e,if_neg e,if_neg]
  have a:decide (u<0)=false:=by simpa using h0
  have b:decide (c<0)=false:=by simpa using(by omega:0≤c)
  rw[a,b];decide
theorem fl_zero:Fl (.flt 0):=.flt 0 nn0 (by omega)
structure Us(x:AV):Prop where
 ex:∃u c:Int,x=ofA u c∧0≤u∧u≤c∧0<c∧c≤9223372036854775807
theorem Us.cls{x:AV}(h:Us x):cls x=3∨Go.Aa.T.cls x=4:=by
 obtain⟨u,c,rfl,h0,h1,h2,h3⟩:=h.ex
 rw[of_cls0 h0 h2 (by omega) h3]
 split<;>simp
end Go.Aa.T
set_option linter.unusedVariables false
set_option linter.unusedSimpArgs false
set_option maxRecDepth 100000
namespace Go.Aa.T
open Go.Aa Go.Proofs
theorem capl{s:St}(fs:FewS s):∀n∈s.nodes,n.cap.length≤1000:=fun n hn=>by have:=(fewNd (fs.node n hn)).cap;omega
end Go.Aa.T
set_option linter.unusedVariables false
set_option linter.unusedSimpArgs false
set_option maxRecDepth 100000
namespace Go.Aa.T
open Go.Aa Go.Proofs
theorem known25':Gives cfg 25 [] (.bool true):=by
 obtain⟨H',h⟩:=known_ret25
 exact⟨_,h,rfl⟩
theorem stB{s:St}(fs:FewS s)(r:RgS s):StB s:=⟨stIn fs r,by have:=fs.nodes;omega,capl fs,few_nd fs,fun p hp=>few_pd (fs.pod p hp)⟩
end Go.Aa.T
set_option linter.unusedVariables false
set_option linter.unusedSimpArgs false
set_option maxRecDepth 100000
namespace Go.Aa.T
open Go.Aa Go.Proofs
theorem fit_wt{s:St}{p:Pod}{n:Node}(hf:findG Node.name s.nodes p.node=some n):(wtB s p=true→fitS s p p.node=8∨fitS s p p.node=9)∧(wtB s p=false→fitS s p p.node≠9):=by
 unfold fitS fitG wtB
 rw[show(dropS s p.name).nodes=s.nodes from rfl,hf]
 simp only[Option.getD_some]
 constructor
 ·intro hw
  rw[hw]
  split<;>simp
 ·intro hw
  rw[hw]
  intro h
  split at h<;>(try split at h)<;>(try split at h)<;>(try split at h)<;>simp_all
theorem st_loop(s:St)(b:StB s)(hs:srtP s.pods)(hpo:podsE s s.pods=0)(lo hi:AV)(l:List (List UInt8))(hl:l.length≤1000):
 ∀(post:List Pod)(i:Nat)(hd:s.pods.drop i=post)(k:Nat)(hk:k≤l.length)(he:l.drop k=oneL s lo hi 1 post)(ex:List (List AV))(T:Env)
 (hT:Has T [(1,.ptr 0 0),(3,.sl .sh (l.map .str)),(4,.int .i64 k),(5,.int .i64 i)]),
 Goes cfg a9 k9_0 T ⟨(encSt s).cells::ex,[],[]⟩ (IsRet (.bool true)):=by
 have hp:=b.ins.pods
 intro post
 induction post with
 |nil=>
  intro i hd k hk he ex T hT
  have hge:=drop_ge hd
  have hk2:l.length≤k:=drop_ge (by rw[he];rfl)
  have hk3:k=l.length:=by omega
  subst hk3
  exact let ζ1:List AV:=[.sl .sh (s.nodes.map encN),.sl .sh (s.pods.map encPd),.sl .sh (s.buds.map encB)];let ζ2:Heap:={boxes:=ζ1::ex,toks:=[],loops:=[]:Heap};gG 120 _ hT (.load (lB false 1 ζ2 0 1 (.sl .sh (s.pods.map encPd)) ζ1)<|.len (lM .sh encPd s.pods)<|.no (dF ((↑i:Int)<(↑s.pods.length:Int)))<|.len (lM .sh .str l)<|.fin ((.ret (.bool ((↑l.length:Int)==(↑l.length:Int))),ζ2)) (by exact ret_b (by simp+zetaDelta)))
 |cons x post ih=>
  intro i hd k hk he ex T hT
  have hlt:=drop_lt hd
  have hnx:=drop_next hd
  have hxm:x∈s.pods:=drop_mem hd
  have hxi:idxA 11 (.sl .sh (s.pods.map encPd)) (.int .i64 (i:Nat))=some (.ref (encPd x).cells):=idx_row (f:=encPd) hd rfl
  have inc:=inc_i (i:=i) (by omega)
  have inck:=inc_i (i:=k) (by omega)
  have fa:=fit_any s b.ins b.nd (by have:=b.nodes;omega) x (b.pd x hxm) x.node
  cases hfd:foundB s lo hi 1 x with
  |true=>
   rw[one_yes hfd]at he
   have hkl:=drop_lt he
   have hkn:=drop_next he
   have hli:idxA 1 (.sl .sh (l.map .str)) (.int .i64 (k:Nat))=some (.ref [.str x.name]):=idx_row (f:=AV.str) he rfl
   have ih':=ih (i+1) hnx (k+1) (by omega) hkn (ex++[(encPd x).cells])
   have h1:¬x.node=[]:=fun e=>by simp[foundB,e]at hfd
   have h2:x.hold=false:=by cases h:x.hold with|false=>rfl|true=>simp[foundB,h]at hfd
   have hw:wtB s x=true:=by
    have:isB s lo hi 1 x=true:=by cases h:isB s lo hi 1 x with|true=>rfl|false=>simp[foundB,h]at hfd
    exact this
   obtain⟨n,hf⟩:=pods_at hpo x hxm h1
   have hq:=(fit_wt hf).1 hw
   generalize fitS s x x.node=c at fa hq
   rcases hq with rfl|rfl
   ·exact let ζ1:List AV:=[.str x.name,.str x.owner,.int .i64 x.prio,.sl .sh (x.need.map encA),.sl .sh (x.labels.map encP),.sl .sh (x.sel.map encM),.sl .sh (x.tols.map encL),.str x.key,.int .i64 x.most,.str x.node,.bool x.hold];let ζ2:List AV:=[.sl .sh (s.nodes.map encN),.sl .sh (s.pods.map encPd),.sl .sh (s.buds.map encB)];let ζ3:Heap:={boxes:=ζ2::(ex++[ζ1]),toks:=[],loops:=[]:Heap};let ζ4:List AV:=[.str [],.str [],.int .i64 0,.sl .full [],.sl .full [],.sl .full [],.sl .full [],.str [],.int .i64 0,.str [],.bool false];let ζ5:Heap:={boxes:=ζ2::ex,toks:=[],loops:=[]:Heap};gG 300 _ hT (.load (lB false 1 ζ5 0 1 (.sl .sh (s.pods.map encPd)) ζ2)<|.len (lM .sh encPd s.pods)<|.yes (dT ((↑i:Int)<(↑s.pods.length:Int)))<|.load (lB false 1 ζ5 0 1 (.sl .sh (s.pods.map encPd)) ζ2)<|.idx hxi<|.load (rfl:loadA true 11 ζ5 (.ref ζ1)=some (.agg ζ1))<|.store (show storeA 11 {boxes:=ζ2::(ex++[ζ4]),toks:=[],loops:=[]:Heap} (.ptr (ζ2::ex).length 0) (.agg ζ1)=some (ζ3)from store_box2 (cs:=ζ4) (cs':=ζ1) (by simp+zetaDelta) rfl (by simp+zetaDelta [List.set_append]))<|.len (lM .sh .str l)<|.yes (dT ((↑k:Int)<(↑l.length:Int)))<|.idx hli<|.load (rfl:loadA false 1 ζ3 (.ref [.str x.name])=some (.str x.name))<|.load (show loadA false 1 ζ3 (.ptr (ζ2::ex).length 0)=some (.str x.name)from load_box (cs:=ζ1) (by simp+zetaDelta) rfl)<|.yes (show(x.name==x.name)=true from(by simp+zetaDelta))<|.bin inck<|.load (show loadA false 1 ζ3 (.ptr (ζ2::ex).length 10)=some (.bool x.hold)from load_box (cs:=ζ1) (by simp+zetaDelta) rfl)<|.no (show(x.hold)=false from Bool.eq_false_iff.2 (by simp+zetaDelta [h2]))<|.load (show loadA false 1 ζ3 (.ptr (ζ2::ex).length 9)=some (.str x.node)from load_box (cs:=ζ1) (by simp+zetaDelta) rfl)<|.no (show(x.node==[])=false from Bool.eq_false_iff.2 (by simpa using h1))<|.load (lB true 3 ζ3 0 0 (.agg ζ2) ζ2)<|.load (show loadA true 11 ζ3 (.ptr (ζ2::ex).length 0)=some (.agg ζ1)from load_box (cs:=ζ1) (by simp+zetaDelta) rfl)<|.load (show loadA false 1 ζ3 (.ptr (ζ2::ex).length 9)=some (.str x.node)from load_box (cs:=ζ1) (by simp+zetaDelta) rfl)<|.callK ([.agg ζ2,.agg ζ1,.str x.node]) (.int .i64 8) fa<|.ff<|.ff<|.yes (show(x.name==x.name)=true from(by simp+zetaDelta))<|.tt<|.ff<|.bin inc<|.cutQ k9_0 [(1,.ptr 0 0),(3,.sl .sh (List.map .str l)),(4,.int .i64 (↑(k+1):Int)),(5,.int .i64 (↑(i+1)))] (ζ3) (fun T hT=>(ih' T hT)))
   ·exact let ζ1:List AV:=[.str x.name,.str x.owner,.int .i64 x.prio,.sl .sh (x.need.map encA),.sl .sh (x.labels.map encP),.sl .sh (x.sel.map encM),.sl .sh (x.tols.map encL),.str x.key,.int .i64 x.most,.str x.node,.bool x.hold];let ζ2:List AV:=[.sl .sh (s.nodes.map encN),.sl .sh (s.pods.map encPd),.sl .sh (s.buds.map encB)];let ζ3:Heap:={boxes:=ζ2::(ex++[ζ1]),toks:=[],loops:=[]:Heap};let ζ4:List AV:=[.str [],.str [],.int .i64 0,.sl .full [],.sl .full [],.sl .full [],.sl .full [],.str [],.int .i64 0,.str [],.bool false];let ζ5:Heap:={boxes:=ζ2::ex,toks:=[],loops:=[]:Heap};gG 300 _ hT (.load (lB false 1 ζ5 0 1 (.sl .sh (s.pods.map encPd)) ζ2)<|.len (lM .sh encPd s.pods)<|.yes (dT ((↑i:Int)<(↑s.pods.length:Int)))<|.load (lB false 1 ζ5 0 1 (.sl .sh (s.pods.map encPd)) ζ2)<|.idx hxi<|.load (rfl:loadA true 11 ζ5 (.ref ζ1)=some (.agg ζ1))<|.store (show storeA 11 {boxes:=ζ2::(ex++[ζ4]),toks:=[],loops:=[]:Heap} (.ptr (ζ2::ex).length 0) (.agg ζ1)=some (ζ3)from store_box2 (cs:=ζ4) (cs':=ζ1) (by simp+zetaDelta) rfl (by simp+zetaDelta [List.set_append]))<|.len (lM .sh .str l)<|.yes (dT ((↑k:Int)<(↑l.length:Int)))<|.idx hli<|.load (rfl:loadA false 1 ζ3 (.ref [.str x.name])=some (.str x.name))<|.load (show loadA false 1 ζ3 (.ptr (ζ2::ex).length 0)=some (.str x.name)from load_box (cs:=ζ1) (by simp+zetaDelta) rfl)<|.yes (show(x.name==x.name)=true from(by simp+zetaDelta))<|.bin inck<|.load (show loadA false 1 ζ3 (.ptr (ζ2::ex).length 10)=some (.bool x.hold)from load_box (cs:=ζ1) (by simp+zetaDelta) rfl)<|.no (show(x.hold)=false from Bool.eq_false_iff.2 (by simp+zetaDelta [h2]))<|.load (show loadA false 1 ζ3 (.ptr (ζ2::ex).length 9)=some (.str x.node)from load_box (cs:=ζ1) (by simp+zetaDelta) rfl)<|.no (show(x.node==[])=false from Bool.eq_false_iff.2 (by simpa using h1))<|.load (lB true 3 ζ3 0 0 (.agg ζ2) ζ2)<|.load (show loadA true 11 ζ3 (.ptr (ζ2::ex).length 0)=some (.agg ζ1)from load_box (cs:=ζ1) (by simp+zetaDelta) rfl)<|.load (show loadA false 1 ζ3 (.ptr (ζ2::ex).length 9)=some (.str x.node)from load_box (cs:=ζ1) (by simp+zetaDelta) rfl)<|.callK ([.agg ζ2,.agg ζ1,.str x.node]) (.int .i64 9) fa<|.tt<|.no (show(!x.name==x.name)=false from by have hh:(x.name==x.name)=true:=(by simp+zetaDelta);simp[hh])<|.yes (show(x.name==x.name)=true from(by simp+zetaDelta))<|.ff<|.ff<|.bin inc<|.cutQ k9_0 [(1,.ptr 0 0),(3,.sl .sh (List.map .str l)),(4,.int .i64 (↑(k+1):Int)),(5,.int .i64 (↑(i+1)))] (ζ3) (fun T hT=>(ih' T hT)))
  |false=>
   rw[one_no hfd]at he
   have ih':=ih (i+1) hnx k hk he (ex++[(encPd x).cells])
   have hq:¬x.node=[]→x.hold=false→fitS s x x.node≠9:=fun h1 h2=>by
    obtain⟨n,hf⟩:=pods_at hpo x hxm h1
    refine(fit_wt hf).2 ?_
    cases h:wtB s x with
    |false=>rfl
    |true=>
     have:isB s lo hi 1 x=true:=h
     simp[foundB,h1,h2,this]at hfd
   have hcase:l.length≤k∨∃q:List UInt8,k<l.length∧idxA 1 (.sl .sh (l.map .str)) (.int .i64 (k:Nat))=some (.ref [.str q])∧q≠x.name:=by
    cases ho:oneL s lo hi 1 post with
    |nil=>rw[ho]at he;exact .inl (drop_ge he)
    |cons q r=>
     rw[ho]at he
     refine .inr ⟨q,drop_lt he,idx_row (f:=AV.str) he rfl,?_⟩
     have hq:q∈oneL s lo hi 1 post:=by rw[ho];simp
     obtain⟨y,hy,rfl⟩:=List.mem_map.1 hq
     have hy:=(List.mem_filter.1 hy).1
     have hsd:srtP (x::post):=by rw[←hd];exact hs.sublist (List.drop_sublist _ _)
     have:=(List.pairwise_cons.1 hsd).1 y hy
     intro e
     rw[e]at this
     exact List.lt_irrefl _ (less_lt.1 this)
   generalize fitS s x x.node=c at fa hq
   rcases hcase with hc|⟨q,hc,hli,hne⟩
   ·by_cases h1:x.node=[]
    ·cases h2:x.hold with
     |true=>
      exact let ζ1:List AV:=[.str x.name,.str x.owner,.int .i64 x.prio,.sl .sh (x.need.map encA),.sl .sh (x.labels.map encP),.sl .sh (x.sel.map encM),.sl .sh (x.tols.map encL),.str x.key,.int .i64 x.most,.str x.node,.bool x.hold];let ζ2:List AV:=[.sl .sh (s.nodes.map encN),.sl .sh (s.pods.map encPd),.sl .sh (s.buds.map encB)];let ζ3:List AV:=[.str [],.str [],.int .i64 0,.sl .full [],.sl .full [],.sl .full [],.sl .full [],.str [],.int .i64 0,.str [],.bool false];let ζ4:Heap:={boxes:=ζ2::(ex++[ζ1]),toks:=[],loops:=[]:Heap};let ζ5:Heap:={boxes:=ζ2::ex,toks:=[],loops:=[]:Heap};gG 300 _ hT (.load (lB false 1 ζ5 0 1 (.sl .sh (s.pods.map encPd)) ζ2)<|.len (lM .sh encPd s.pods)<|.yes (dT ((↑i:Int)<(↑s.pods.length:Int)))<|.load (lB false 1 ζ5 0 1 (.sl .sh (s.pods.map encPd)) ζ2)<|.idx hxi<|.load (rfl:loadA true 11 ζ5 (.ref ζ1)=some (.agg ζ1))<|.store (show storeA 11 {boxes:=ζ2::(ex++[ζ3]),toks:=[],loops:=[]:Heap} (.ptr (ζ2::ex).length 0) (.agg ζ1)=some (ζ4)from store_box2 (cs:=ζ3) (cs':=ζ1) (by simp+zetaDelta) rfl (by simp+zetaDelta [List.set_append]))<|.len (lM .sh .str l)<|.no (dF ((↑k:Int)<(↑l.length:Int)))<|.ff<|.load (show loadA false 1 ζ4 (.ptr (ζ2::ex).length 10)=some (.bool x.hold)from load_box (cs:=ζ1) (by simp+zetaDelta) rfl)<|.yes (show(x.hold)=true from(by omega))<|.tt<|.ff<|.bin inc<|.cutQ k9_0 [(1,.ptr 0 0),(3,.sl .sh (List.map .str l)),(4,.int .i64 ↑k),(5,.int .i64 (↑(i+1)))] (ζ4) (fun T hT=>(ih' T hT)))
     |false=>
      exact let ζ1:List AV:=[.str x.name,.str x.owner,.int .i64 x.prio,.sl .sh (x.need.map encA),.sl .sh (x.labels.map encP),.sl .sh (x.sel.map encM),.sl .sh (x.tols.map encL),.str x.key,.int .i64 x.most,.str x.node,.bool x.hold];let ζ2:List AV:=[.sl .sh (s.nodes.map encN),.sl .sh (s.pods.map encPd),.sl .sh (s.buds.map encB)];let ζ3:Heap:={boxes:=ζ2::(ex++[ζ1]),toks:=[],loops:=[]:Heap};let ζ4:List AV:=[.str [],.str [],.int .i64 0,.sl .full [],.sl .full [],.sl .full [],.sl .full [],.str [],.int .i64 0,.str [],.bool false];let ζ5:Heap:={boxes:=ζ2::ex,toks:=[],loops:=[]:Heap};gG 300 _ hT (.load (lB false 1 ζ5 0 1 (.sl .sh (s.pods.map encPd)) ζ2)<|.len (lM .sh encPd s.pods)<|.yes (dT ((↑i:Int)<(↑s.pods.length:Int)))<|.load (lB false 1 ζ5 0 1 (.sl .sh (s.pods.map encPd)) ζ2)<|.idx hxi<|.load (rfl:loadA true 11 ζ5 (.ref ζ1)=some (.agg ζ1))<|.store (show storeA 11 {boxes:=ζ2::(ex++[ζ4]),toks:=[],loops:=[]:Heap} (.ptr (ζ2::ex).length 0) (.agg ζ1)=some (ζ3)from store_box2 (cs:=ζ4) (cs':=ζ1) (by simp+zetaDelta) rfl (by simp+zetaDelta [List.set_append]))<|.len (lM .sh .str l)<|.no (dF ((↑k:Int)<(↑l.length:Int)))<|.ff<|.load (show loadA false 1 ζ3 (.ptr (ζ2::ex).length 10)=some (.bool x.hold)from load_box (cs:=ζ1) (by simp+zetaDelta) rfl)<|.no (show(x.hold)=false from Bool.eq_false_iff.2 (by simp+zetaDelta [h2]))<|.load (show loadA false 1 ζ3 (.ptr (ζ2::ex).length 9)=some (.str x.node)from load_box (cs:=ζ1) (by simp+zetaDelta) rfl)<|.yes (show(x.node==[])=true from(by simpa using h1))<|.ff<|.bin inc<|.cutQ k9_0 [(1,.ptr 0 0),(3,.sl .sh (List.map .str l)),(4,.int .i64 ↑k),(5,.int .i64 (↑(i+1)))] (ζ3) (fun T hT=>(ih' T hT)))
    ·cases h2:x.hold with
     |true=>
      exact let ζ1:List AV:=[.str x.name,.str x.owner,.int .i64 x.prio,.sl .sh (x.need.map encA),.sl .sh (x.labels.map encP),.sl .sh (x.sel.map encM),.sl .sh (x.tols.map encL),.str x.key,.int .i64 x.most,.str x.node,.bool x.hold];let ζ2:List AV:=[.sl .sh (s.nodes.map encN),.sl .sh (s.pods.map encPd),.sl .sh (s.buds.map encB)];let ζ3:List AV:=[.str [],.str [],.int .i64 0,.sl .full [],.sl .full [],.sl .full [],.sl .full [],.str [],.int .i64 0,.str [],.bool false];let ζ4:Heap:={boxes:=ζ2::(ex++[ζ1]),toks:=[],loops:=[]:Heap};let ζ5:Heap:={boxes:=ζ2::ex,toks:=[],loops:=[]:Heap};gG 300 _ hT (.load (lB false 1 ζ5 0 1 (.sl .sh (s.pods.map encPd)) ζ2)<|.len (lM .sh encPd s.pods)<|.yes (dT ((↑i:Int)<(↑s.pods.length:Int)))<|.load (lB false 1 ζ5 0 1 (.sl .sh (s.pods.map encPd)) ζ2)<|.idx hxi<|.load (rfl:loadA true 11 ζ5 (.ref ζ1)=some (.agg ζ1))<|.store (show storeA 11 {boxes:=ζ2::(ex++[ζ3]),toks:=[],loops:=[]:Heap} (.ptr (ζ2::ex).length 0) (.agg ζ1)=some (ζ4)from store_box2 (cs:=ζ3) (cs':=ζ1) (by simp+zetaDelta) rfl (by simp+zetaDelta [List.set_append]))<|.len (lM .sh .str l)<|.no (dF ((↑k:Int)<(↑l.length:Int)))<|.ff<|.load (show loadA false 1 ζ4 (.ptr (ζ2::ex).length 10)=some (.bool x.hold)from load_box (cs:=ζ1) (by simp+zetaDelta) rfl)<|.yes (show(x.hold)=true from(by omega))<|.tt<|.ff<|.bin inc<|.cutQ k9_0 [(1,.ptr 0 0),(3,.sl .sh (List.map .str l)),(4,.int .i64 ↑k),(5,.int .i64 (↑(i+1)))] (ζ4) (fun T hT=>(ih' T hT)))
     |false=>
      have hq:=hq h1 h2
      exact let ζ1:List AV:=[.str x.name,.str x.owner,.int .i64 x.prio,.sl .sh (x.need.map encA),.sl .sh (x.labels.map encP),.sl .sh (x.sel.map encM),.sl .sh (x.tols.map encL),.str x.key,.int .i64 x.most,.str x.node,.bool x.hold];let ζ2:List AV:=[.sl .sh (s.nodes.map encN),.sl .sh (s.pods.map encPd),.sl .sh (s.buds.map encB)];let ζ3:Heap:={boxes:=ζ2::(ex++[ζ1]),toks:=[],loops:=[]:Heap};let ζ4:List AV:=[.str [],.str [],.int .i64 0,.sl .full [],.sl .full [],.sl .full [],.sl .full [],.str [],.int .i64 0,.str [],.bool false];let ζ5:Heap:={boxes:=ζ2::ex,toks:=[],loops:=[]:Heap};gG 300 _ hT (.load (lB false 1 ζ5 0 1 (.sl .sh (s.pods.map encPd)) ζ2)<|.len (lM .sh encPd s.pods)<|.yes (dT ((↑i:Int)<(↑s.pods.length:Int)))<|.load (lB false 1 ζ5 0 1 (.sl .sh (s.pods.map encPd)) ζ2)<|.idx hxi<|.load (rfl:loadA true 11 ζ5 (.ref ζ1)=some (.agg ζ1))<|.store (show storeA 11 {boxes:=ζ2::(ex++[ζ4]),toks:=[],loops:=[]:Heap} (.ptr (ζ2::ex).length 0) (.agg ζ1)=some (ζ3)from store_box2 (cs:=ζ4) (cs':=ζ1) (by simp+zetaDelta) rfl (by simp+zetaDelta [List.set_append]))<|.len (lM .sh .str l)<|.no (dF ((↑k:Int)<(↑l.length:Int)))<|.ff<|.load (show loadA false 1 ζ3 (.ptr (ζ2::ex).length 10)=some (.bool x.hold)from load_box (cs:=ζ1) (by simp+zetaDelta) rfl)<|.no (show(x.hold)=false from Bool.eq_false_iff.2 (by simp+zetaDelta [h2]))<|.load (show loadA false 1 ζ3 (.ptr (ζ2::ex).length 9)=some (.str x.node)from load_box (cs:=ζ1) (by simp+zetaDelta) rfl)<|.no (show(x.node==[])=false from Bool.eq_false_iff.2 (by simpa using h1))<|.load (lB true 3 ζ3 0 0 (.agg ζ2) ζ2)<|.load (show loadA true 11 ζ3 (.ptr (ζ2::ex).length 0)=some (.agg ζ1)from load_box (cs:=ζ1) (by simp+zetaDelta) rfl)<|.load (show loadA false 1 ζ3 (.ptr (ζ2::ex).length 9)=some (.str x.node)from load_box (cs:=ζ1) (by simp+zetaDelta) rfl)<|.callK ([.agg ζ2,.agg ζ1,.str x.node]) (.int .i64 c) fa<|.no (show(c==(9:Int))=false from Bool.eq_false_iff.2 (by simp+zetaDelta [hq]))<|.ff<|.ff<|.ff<|.ff<|.bin inc<|.cutQ k9_0 [(1,.ptr 0 0),(3,.sl .sh (List.map .str l)),(4,.int .i64 ↑k),(5,.int .i64 (↑(i+1)))] (ζ3) (fun T hT=>(ih' T hT)))
   ·have hne':¬q=x.name:=hne
    by_cases h1:x.node=[]
    ·cases h2:x.hold with
     |true=>
      exact let ζ1:List AV:=[.str x.name,.str x.owner,.int .i64 x.prio,.sl .sh (x.need.map encA),.sl .sh (x.labels.map encP),.sl .sh (x.sel.map encM),.sl .sh (x.tols.map encL),.str x.key,.int .i64 x.most,.str x.node,.bool x.hold];let ζ2:List AV:=[.sl .sh (s.nodes.map encN),.sl .sh (s.pods.map encPd),.sl .sh (s.buds.map encB)];let ζ3:Heap:={boxes:=ζ2::(ex++[ζ1]),toks:=[],loops:=[]:Heap};let ζ4:List AV:=[.str [],.str [],.int .i64 0,.sl .full [],.sl .full [],.sl .full [],.sl .full [],.str [],.int .i64 0,.str [],.bool false];let ζ5:Heap:={boxes:=ζ2::ex,toks:=[],loops:=[]:Heap};gG 300 _ hT (.load (lB false 1 ζ5 0 1 (.sl .sh (s.pods.map encPd)) ζ2)<|.len (lM .sh encPd s.pods)<|.yes (dT ((↑i:Int)<(↑s.pods.length:Int)))<|.load (lB false 1 ζ5 0 1 (.sl .sh (s.pods.map encPd)) ζ2)<|.idx hxi<|.load (rfl:loadA true 11 ζ5 (.ref ζ1)=some (.agg ζ1))<|.store (show storeA 11 {boxes:=ζ2::(ex++[ζ4]),toks:=[],loops:=[]:Heap} (.ptr (ζ2::ex).length 0) (.agg ζ1)=some (ζ3)from store_box2 (cs:=ζ4) (cs':=ζ1) (by simp+zetaDelta) rfl (by simp+zetaDelta [List.set_append]))<|.len (lM .sh .str l)<|.yes (dT ((↑k:Int)<(↑l.length:Int)))<|.idx hli<|.load (rfl:loadA false 1 ζ3 (.ref [.str q])=some (.str q))<|.load (show loadA false 1 ζ3 (.ptr (ζ2::ex).length 0)=some (.str x.name)from load_box (cs:=ζ1) (by simp+zetaDelta) rfl)<|.no (show(q==x.name)=false from Bool.eq_false_iff.2 (by simpa using hne'))<|.load (show loadA false 1 ζ3 (.ptr (ζ2::ex).length 10)=some (.bool x.hold)from load_box (cs:=ζ1) (by simp+zetaDelta) rfl)<|.yes (show(x.hold)=true from(by omega))<|.tt<|.no (show(q==x.name)=false from Bool.eq_false_iff.2 (by simpa using hne'))<|.bin inc<|.cutQ k9_0 [(1,.ptr 0 0),(3,.sl .sh (List.map .str l)),(4,.int .i64 ↑k),(5,.int .i64 (↑(i+1)))] (ζ3) (fun T hT=>(ih' T hT)))
     |false=>
      exact let ζ1:List AV:=[.str x.name,.str x.owner,.int .i64 x.prio,.sl .sh (x.need.map encA),.sl .sh (x.labels.map encP),.sl .sh (x.sel.map encM),.sl .sh (x.tols.map encL),.str x.key,.int .i64 x.most,.str x.node,.bool x.hold];let ζ2:List AV:=[.sl .sh (s.nodes.map encN),.sl .sh (s.pods.map encPd),.sl .sh (s.buds.map encB)];let ζ3:Heap:={boxes:=ζ2::(ex++[ζ1]),toks:=[],loops:=[]:Heap};let ζ4:List AV:=[.str [],.str [],.int .i64 0,.sl .full [],.sl .full [],.sl .full [],.sl .full [],.str [],.int .i64 0,.str [],.bool false];let ζ5:Heap:={boxes:=ζ2::ex,toks:=[],loops:=[]:Heap};gG 300 _ hT (.load (lB false 1 ζ5 0 1 (.sl .sh (s.pods.map encPd)) ζ2)<|.len (lM .sh encPd s.pods)<|.yes (dT ((↑i:Int)<(↑s.pods.length:Int)))<|.load (lB false 1 ζ5 0 1 (.sl .sh (s.pods.map encPd)) ζ2)<|.idx hxi<|.load (rfl:loadA true 11 ζ5 (.ref ζ1)=some (.agg ζ1))<|.store (show storeA 11 {boxes:=ζ2::(ex++[ζ4]),toks:=[],loops:=[]:Heap} (.ptr (ζ2::ex).length 0) (.agg ζ1)=some (ζ3)from store_box2 (cs:=ζ4) (cs':=ζ1) (by simp+zetaDelta) rfl (by simp+zetaDelta [List.set_append]))<|.len (lM .sh .str l)<|.yes (dT ((↑k:Int)<(↑l.length:Int)))<|.idx hli<|.load (rfl:loadA false 1 ζ3 (.ref [.str q])=some (.str q))<|.load (show loadA false 1 ζ3 (.ptr (ζ2::ex).length 0)=some (.str x.name)from load_box (cs:=ζ1) (by simp+zetaDelta) rfl)<|.no (show(q==x.name)=false from Bool.eq_false_iff.2 (by simpa using hne'))<|.load (show loadA false 1 ζ3 (.ptr (ζ2::ex).length 10)=some (.bool x.hold)from load_box (cs:=ζ1) (by simp+zetaDelta) rfl)<|.no (show(x.hold)=false from Bool.eq_false_iff.2 (by simp+zetaDelta [h2]))<|.load (show loadA false 1 ζ3 (.ptr (ζ2::ex).length 9)=some (.str x.node)from load_box (cs:=ζ1) (by simp+zetaDelta) rfl)<|.yes (show(x.node==[])=true from(by simpa using h1))<|.no (show(q==x.name)=false from Bool.eq_false_iff.2 (by simpa using hne'))<|.bin inc<|.cutQ k9_0 [(1,.ptr 0 0),(3,.sl .sh (List.map .str l)),(4,.int .i64 ↑k),(5,.int .i64 (↑(i+1)))] (ζ3) (fun T hT=>(ih' T hT)))
    ·cases h2:x.hold with
     |true=>
      exact let ζ1:List AV:=[.str x.name,.str x.owner,.int .i64 x.prio,.sl .sh (x.need.map encA),.sl .sh (x.labels.map encP),.sl .sh (x.sel.map encM),.sl .sh (x.tols.map encL),.str x.key,.int .i64 x.most,.str x.node,.bool x.hold];let ζ2:List AV:=[.sl .sh (s.nodes.map encN),.sl .sh (s.pods.map encPd),.sl .sh (s.buds.map encB)];let ζ3:Heap:={boxes:=ζ2::(ex++[ζ1]),toks:=[],loops:=[]:Heap};let ζ4:List AV:=[.str [],.str [],.int .i64 0,.sl .full [],.sl .full [],.sl .full [],.sl .full [],.str [],.int .i64 0,.str [],.bool false];let ζ5:Heap:={boxes:=ζ2::ex,toks:=[],loops:=[]:Heap};gG 300 _ hT (.load (lB false 1 ζ5 0 1 (.sl .sh (s.pods.map encPd)) ζ2)<|.len (lM .sh encPd s.pods)<|.yes (dT ((↑i:Int)<(↑s.pods.length:Int)))<|.load (lB false 1 ζ5 0 1 (.sl .sh (s.pods.map encPd)) ζ2)<|.idx hxi<|.load (rfl:loadA true 11 ζ5 (.ref ζ1)=some (.agg ζ1))<|.store (show storeA 11 {boxes:=ζ2::(ex++[ζ4]),toks:=[],loops:=[]:Heap} (.ptr (ζ2::ex).length 0) (.agg ζ1)=some (ζ3)from store_box2 (cs:=ζ4) (cs':=ζ1) (by simp+zetaDelta) rfl (by simp+zetaDelta [List.set_append]))<|.len (lM .sh .str l)<|.yes (dT ((↑k:Int)<(↑l.length:Int)))<|.idx hli<|.load (rfl:loadA false 1 ζ3 (.ref [.str q])=some (.str q))<|.load (show loadA false 1 ζ3 (.ptr (ζ2::ex).length 0)=some (.str x.name)from load_box (cs:=ζ1) (by simp+zetaDelta) rfl)<|.no (show(q==x.name)=false from Bool.eq_false_iff.2 (by simpa using hne'))<|.load (show loadA false 1 ζ3 (.ptr (ζ2::ex).length 10)=some (.bool x.hold)from load_box (cs:=ζ1) (by simp+zetaDelta) rfl)<|.yes (show(x.hold)=true from(by omega))<|.tt<|.no (show(q==x.name)=false from Bool.eq_false_iff.2 (by simpa using hne'))<|.bin inc<|.cutQ k9_0 [(1,.ptr 0 0),(3,.sl .sh (List.map .str l)),(4,.int .i64 ↑k),(5,.int .i64 (↑(i+1)))] (ζ3) (fun T hT=>(ih' T hT)))
     |false=>
      have hq:=hq h1 h2
      exact let ζ1:List AV:=[.str x.name,.str x.owner,.int .i64 x.prio,.sl .sh (x.need.map encA),.sl .sh (x.labels.map encP),.sl .sh (x.sel.map encM),.sl .sh (x.tols.map encL),.str x.key,.int .i64 x.most,.str x.node,.bool x.hold];let ζ2:List AV:=[.sl .sh (s.nodes.map encN),.sl .sh (s.pods.map encPd),.sl .sh (s.buds.map encB)];let ζ3:Heap:={boxes:=ζ2::(ex++[ζ1]),toks:=[],loops:=[]:Heap};let ζ4:List AV:=[.str [],.str [],.int .i64 0,.sl .full [],.sl .full [],.sl .full [],.sl .full [],.str [],.int .i64 0,.str [],.bool false];let ζ5:Heap:={boxes:=ζ2::ex,toks:=[],loops:=[]:Heap};gG 300 _ hT (.load (lB false 1 ζ5 0 1 (.sl .sh (s.pods.map encPd)) ζ2)<|.len (lM .sh encPd s.pods)<|.yes (dT ((↑i:Int)<(↑s.pods.length:Int)))<|.load (lB false 1 ζ5 0 1 (.sl .sh (s.pods.map encPd)) ζ2)<|.idx hxi<|.load (rfl:loadA true 11 ζ5 (.ref ζ1)=some (.agg ζ1))<|.store (show storeA 11 {boxes:=ζ2::(ex++[ζ4]),toks:=[],loops:=[]:Heap} (.ptr (ζ2::ex).length 0) (.agg ζ1)=some (ζ3)from store_box2 (cs:=ζ4) (cs':=ζ1) (by simp+zetaDelta) rfl (by simp+zetaDelta [List.set_append]))<|.len (lM .sh .str l)<|.yes (dT ((↑k:Int)<(↑l.length:Int)))<|.idx hli<|.load (rfl:loadA false 1 ζ3 (.ref [.str q])=some (.str q))<|.load (show loadA false 1 ζ3 (.ptr (ζ2::ex).length 0)=some (.str x.name)from load_box (cs:=ζ1) (by simp+zetaDelta) rfl)<|.no (show(q==x.name)=false from Bool.eq_false_iff.2 (by simpa using hne'))<|.load (show loadA false 1 ζ3 (.ptr (ζ2::ex).length 10)=some (.bool x.hold)from load_box (cs:=ζ1) (by simp+zetaDelta) rfl)<|.no (show(x.hold)=false from Bool.eq_false_iff.2 (by simp+zetaDelta [h2]))<|.load (show loadA false 1 ζ3 (.ptr (ζ2::ex).length 9)=some (.str x.node)from load_box (cs:=ζ1) (by simp+zetaDelta) rfl)<|.no (show(x.node==[])=false from Bool.eq_false_iff.2 (by simpa using h1))<|.load (lB true 3 ζ3 0 0 (.agg ζ2) ζ2)<|.load (show loadA true 11 ζ3 (.ptr (ζ2::ex).length 0)=some (.agg ζ1)from load_box (cs:=ζ1) (by simp+zetaDelta) rfl)<|.load (show loadA false 1 ζ3 (.ptr (ζ2::ex).length 9)=some (.str x.node)from load_box (cs:=ζ1) (by simp+zetaDelta) rfl)<|.callK ([.agg ζ2,.agg ζ1,.str x.node]) (.int .i64 c) fa<|.no (show(c==(9:Int))=false from Bool.eq_false_iff.2 (by simp+zetaDelta [hq]))<|.ff<|.no (show(q==x.name)=false from Bool.eq_false_iff.2 (by simpa using hne'))<|.ff<|.ff<|.bin inc<|.cutQ k9_0 [(1,.ptr 0 0),(3,.sl .sh (List.map .str l)),(4,.int .i64 ↑k),(5,.int .i64 (↑(i+1)))] (ζ3) (fun T hT=>(ih' T hT)))
theorem stratTaint(s:St)(r:RgS s):Gives cfg 9 [encSt s] (.bool true):=by
 refine Gives.run (l9 _ _) ?_
 have g:=good_any s r
 cases hg:(fewSt s&&ckSt s==0)with
 |false=>
  rw[hg]at g
  exact let ζ1:List AV:=[.sl .sh (s.nodes.map encN),.sl .sh (s.pods.map encPd),.sl .sh (s.buds.map encB)];gG 90 [] trivial (.callK ([]) (.bool true) known25'<|.ff<|.callK ([.agg ζ1]) (.bool false) g<|.tt<|.fin ((.ret (.bool true),{boxes:=[ζ1],toks:=[],loops:=[]:Heap})) rfl)
 |true=>
  rw[hg]at g
  simp only[Bool.and_eq_true,beq_iff_eq]at hg
  obtain⟨hg1,hg2⟩:=hg
  have fs:=fewS hg1
  have hpo:podsE s s.pods=0:=firstE_zero hg2 _ (by simp)
  have b:=stB fs r
  have hp:=b.ins.pods
  have a:=one_any s b fl_zero fl_zero 1
  have hle:=oneS_len s (.flt 0) (.flt 0) 1
  have lo:=st_loop s b (ck_srt hg2) hpo (.flt 0) (.flt 0) (oneS s (.flt 0) (.flt 0) 1) (by omega) s.pods 0 rfl 0 (by omega) rfl []
  generalize oneS s (.flt 0) (.flt 0) 1=l at*
  exact let ζ1:List AV:=[.sl .sh (s.nodes.map encN),.sl .sh (s.pods.map encPd),.sl .sh (s.buds.map encB)];gG 300 [] trivial (.callK ([]) (.bool true) known25'<|.ff<|.callK ([.agg ζ1]) (.bool true) g<|.ff<|.callG ([.agg ζ1,.int .i64 1,.agg [AV.flt 0,AV.flt 0]]) (.sl .sh (List.map .str l)) a ⟨rfl,rfl⟩ Res.p<|.cutQ k9_0 [(1,.ptr 0 0),(3,.sl .sh (List.map .str l)),(4,.int .i64 0),(5,.int .i64 0)] ({boxes:=[ζ1],toks:=[],loops:=[]:Heap}) (fun T hT=>(lo T hT)))
end Go.Aa.T
set_option linter.unusedVariables false
set_option linter.unusedSimpArgs false
set_option maxRecDepth 100000
namespace Go.Aa.T
open Go.Aa Go.Proofs
theorem law9(xs:List AV)(h:TyAll Tryz.prog 6 [26] xs)(hz:SzAll Tryz.prog [26] xs):∃H',lim cfg (.fn 9) xs Heap.nil=some (.ret (.bool true),H'):=by
 obtain⟨x1,rfl,h1⟩:=tyall_1 h
 obtain⟨a,rfl,r,-⟩:=ty26 (k:=0) h1
 exact(stratTaint a r).ret
end Go.Aa.T
namespace Go.Proofs
open Go.Shelf
def Tryz.lays160_ren:Go.Shelf.Ren:=⟨fun|160=>279|232=>302|231=>301|227=>303|234=>305|233=>304|236=>307|235=>306|228=>321|271=>323|151=>322|197=>298|120=>328|152=>327|260=>316|137=>329|119=>330|224=>319|225=>318|217=>317|266=>325|n=>n,fun|9=>9|4=>4|3=>3|5=>5|117=>359|116=>358|0=>0|124=>362|21=>21|105=>353|46=>329|119=>376|139=>379|138=>378|n=>n,fun|3=>2|4=>3|n=>n⟩
theorem Tryz.lays160:Go.Proofs.Lays.n160 Tryz.prog Tryz.lays160_ren:={
 mixed:=by kernel_rfl
 f119:=Tryz.func330.trans (congrArg some (by kernel_rfl))
 f120:=Tryz.func328.trans (congrArg some (by kernel_rfl))
 f137:=Tryz.func329.trans (congrArg some (by kernel_rfl))
 f151:=Tryz.func322.trans (congrArg some (by kernel_rfl))
 f152:=Tryz.func327.trans (congrArg some (by kernel_rfl))
 f160:=Tryz.func279.trans (congrArg some (by kernel_rfl))
 f197:=Tryz.func298.trans (congrArg some (by kernel_rfl))
 f217:=Tryz.func317.trans (congrArg some (by kernel_rfl))
 f224:=Tryz.func319.trans (congrArg some (by kernel_rfl))
 f225:=Tryz.func318.trans (congrArg some (by kernel_rfl))
 f227:=Tryz.func303.trans (congrArg some (by kernel_rfl))
 f228:=Tryz.func321.trans (congrArg some (by kernel_rfl))
 f231:=Tryz.func301.trans (congrArg some (by kernel_rfl))
 f232:=Tryz.func302.trans (congrArg some (by kernel_rfl))
 f233:=Tryz.func304.trans (congrArg some (by kernel_rfl))
 f234:=Tryz.func305.trans (congrArg some (by kernel_rfl))
 f235:=Tryz.func306.trans (congrArg some (by kernel_rfl))
 f236:=Tryz.func307.trans (congrArg some (by kernel_rfl))
 f260:=Tryz.func316.trans (congrArg some (by kernel_rfl))
 f266:=Tryz.func325.trans (congrArg some (by kernel_rfl))
 f271:=Tryz.func323.trans (congrArg some (by kernel_rfl))
 t0:=Tryz.underlying0
 a0:=Tryz.isAgg0
 z0:=Tryz.sizeOf0
 v0:=Tryz.zeroValue0
 t3:=Tryz.underlying3
 a3:=Tryz.isAgg3
 z3:=Tryz.sizeOf3
 v3:=Tryz.zeroValue3
 t4:=Tryz.underlying4
 a4:=Tryz.isAgg4
 z4:=Tryz.sizeOf4
 v4:=Tryz.zeroValue4
 t5:=Tryz.underlying5
 a5:=Tryz.isAgg5
 z5:=Tryz.sizeOf5
 v5:=Tryz.zeroValue5
 t9:=Tryz.underlying9
 a9:=Tryz.isAgg9
 z9:=Tryz.sizeOf9
 v9:=Tryz.zeroValue9
 t21:=Tryz.underlying21
 a21:=Tryz.isAgg21
 z21:=Tryz.sizeOf21
 v21:=Tryz.zeroValue21
 t46:=Tryz.underlying329
 a46:=Tryz.isAgg329
 z46:=Tryz.sizeOf329
 v46:=Tryz.zeroValue329
 t105:=Tryz.underlying353
 a105:=Tryz.isAgg353
 z105:=Tryz.sizeOf353
 v105:=Tryz.zeroValue353
 t116:=Tryz.underlying358
 a116:=Tryz.isAgg358
 z116:=Tryz.sizeOf358
 t117:=Tryz.underlying359
 a117:=Tryz.isAgg359
 z117:=Tryz.sizeOf359
 v117:=Tryz.zeroValue359
 t119:=Tryz.underlying376
 a119:=Tryz.isAgg376
 z119:=Tryz.sizeOf376
 t124:=Tryz.underlying362
 a124:=Tryz.isAgg362
 z124:=Tryz.sizeOf362
 v124:=Tryz.zeroValue362
 t138:=Tryz.underlying378
 a138:=Tryz.isAgg378
 z138:=Tryz.sizeOf378
 v138:=Tryz.zeroValue378
 t139:=Tryz.underlying379
 a139:=Tryz.isAgg379
 z139:=Tryz.sizeOf379
 v139:=Tryz.zeroValue379
 g3:=by kernel_rfl
 g4:=by kernel_rfl}
def Tryz.lays143_ren:Go.Shelf.Ren:=⟨fun|143=>278|219=>300|217=>317|225=>318|224=>319|267=>320|266=>325|314=>326|n=>n,fun|9=>9|3=>3|4=>4|5=>5|46=>329|146=>380|51=>350|n=>n,fun|1=>1|n=>n⟩
theorem Tryz.lays143:Go.Proofs.Lays.n143 Tryz.prog Tryz.lays143_ren:={
 mixed:=by kernel_rfl
 f143:=Tryz.func278.trans (congrArg some (by kernel_rfl))
 f217:=Tryz.func317.trans (congrArg some (by kernel_rfl))
 f219:=Tryz.func300.trans (congrArg some (by kernel_rfl))
 f224:=Tryz.func319.trans (congrArg some (by kernel_rfl))
 f225:=Tryz.func318.trans (congrArg some (by kernel_rfl))
 f266:=Tryz.func325.trans (congrArg some (by kernel_rfl))
 f267:=Tryz.func320.trans (congrArg some (by kernel_rfl))
 f314:=Tryz.func326.trans (congrArg some (by kernel_rfl))
 t3:=Tryz.underlying3
 a3:=Tryz.isAgg3
 z3:=Tryz.sizeOf3
 v3:=Tryz.zeroValue3
 t4:=Tryz.underlying4
 a4:=Tryz.isAgg4
 z4:=Tryz.sizeOf4
 v4:=Tryz.zeroValue4
 t5:=Tryz.underlying5
 a5:=Tryz.isAgg5
 z5:=Tryz.sizeOf5
 v5:=Tryz.zeroValue5
 t9:=Tryz.underlying9
 a9:=Tryz.isAgg9
 z9:=Tryz.sizeOf9
 v9:=Tryz.zeroValue9
 t46:=Tryz.underlying329
 a46:=Tryz.isAgg329
 z46:=Tryz.sizeOf329
 v46:=Tryz.zeroValue329
 t51:=Tryz.underlying350
 a51:=Tryz.isAgg350
 z51:=Tryz.sizeOf350
 v51:=Tryz.zeroValue350
 t146:=Tryz.underlying380
 a146:=Tryz.isAgg380
 z146:=Tryz.sizeOf380
 v146:=Tryz.zeroValue380
 g1:=by kernel_rfl}
def Tryz.lays138_ren:Go.Shelf.Ren:=⟨fun|138=>277|195=>297|218=>299|143=>278|219=>300|217=>317|225=>318|224=>319|267=>320|266=>325|314=>326|n=>n,fun|9=>9|3=>3|4=>4|5=>5|0=>0|46=>329|146=>380|51=>350|n=>n,fun|1=>1|n=>n⟩
theorem Tryz.lays138:Go.Proofs.Lays.n138 Tryz.prog Tryz.lays138_ren:={
 mixed:=by kernel_rfl
 f138:=Tryz.func277.trans (congrArg some (by kernel_rfl))
 f143:=Tryz.func278.trans (congrArg some (by kernel_rfl))
 f195:=Tryz.func297.trans (congrArg some (by kernel_rfl))
 f217:=Tryz.func317.trans (congrArg some (by kernel_rfl))
 f218:=Tryz.func299.trans (congrArg some (by kernel_rfl))
 f219:=Tryz.func300.trans (congrArg some (by kernel_rfl))
 f224:=Tryz.func319.trans (congrArg some (by kernel_rfl))
 f225:=Tryz.func318.trans (congrArg some (by kernel_rfl))
 f266:=Tryz.func325.trans (congrArg some (by kernel_rfl))
 f267:=Tryz.func320.trans (congrArg some (by kernel_rfl))
 f314:=Tryz.func326.trans (congrArg some (by kernel_rfl))
 t0:=Tryz.underlying0
 a0:=Tryz.isAgg0
 z0:=Tryz.sizeOf0
 v0:=Tryz.zeroValue0
 t3:=Tryz.underlying3
 a3:=Tryz.isAgg3
 z3:=Tryz.sizeOf3
 v3:=Tryz.zeroValue3
 t4:=Tryz.underlying4
 a4:=Tryz.isAgg4
 z4:=Tryz.sizeOf4
 v4:=Tryz.zeroValue4
 t5:=Tryz.underlying5
 a5:=Tryz.isAgg5
 z5:=Tryz.sizeOf5
 v5:=Tryz.zeroValue5
 t9:=Tryz.underlying9
 a9:=Tryz.isAgg9
 z9:=Tryz.sizeOf9
 v9:=Tryz.zeroValue9
 t46:=Tryz.underlying329
 a46:=Tryz.isAgg329
 z46:=Tryz.sizeOf329
 v46:=Tryz.zeroValue329
 t51:=Tryz.underlying350
 a51:=Tryz.isAgg350
 z51:=Tryz.sizeOf350
 v51:=Tryz.zeroValue350
 t146:=Tryz.underlying380
 a146:=Tryz.isAgg380
 z146:=Tryz.sizeOf380
 v146:=Tryz.zeroValue380
 g1:=by kernel_rfl}
def Tryz.lays190_ren:Go.Shelf.Ren:=⟨fun|190=>227|125=>271|258=>270|128=>295|129=>296|302=>286|303=>287|304=>288|305=>289|306=>290|307=>291|308=>292|309=>293|310=>294|333=>310|329=>311|330=>312|334=>313|335=>314|336=>315|344=>324|n=>n,fun|31=>66|9=>9|3=>3|46=>329|0=>0|51=>350|53=>268|4=>4|183=>343|182=>342|131=>157|5=>5|218=>364|222=>368|228=>373|229=>374|n=>n,fun|n=>n⟩
theorem Tryz.lays190:Go.Proofs.Lays.n190 Tryz.prog Tryz.lays190_ren:={
 mixed:=by kernel_rfl
 f125:=Tryz.func271.trans (congrArg some (by kernel_rfl))
 f128:=Tryz.func295.trans (congrArg some (by kernel_rfl))
 f129:=Tryz.func296.trans (congrArg some (by kernel_rfl))
 f190:=Tryz.func227.trans (congrArg some (by kernel_rfl))
 f258:=Tryz.func270.trans (congrArg some (by kernel_rfl))
 f302:=Tryz.func286.trans (congrArg some (by kernel_rfl))
 f303:=Tryz.func287.trans (congrArg some (by kernel_rfl))
 f304:=Tryz.func288.trans (congrArg some (by kernel_rfl))
 f305:=Tryz.func289.trans (congrArg some (by kernel_rfl))
 f306:=Tryz.func290.trans (congrArg some (by kernel_rfl))
 f307:=Tryz.func291.trans (congrArg some (by kernel_rfl))
 f308:=Tryz.func292.trans (congrArg some (by kernel_rfl))
 f309:=Tryz.func293.trans (congrArg some (by kernel_rfl))
 f310:=Tryz.func294.trans (congrArg some (by kernel_rfl))
 f329:=Tryz.func311.trans (congrArg some (by kernel_rfl))
 f330:=Tryz.func312.trans (congrArg some (by kernel_rfl))
 f333:=Tryz.func310.trans (congrArg some (by kernel_rfl))
 f334:=Tryz.func313.trans (congrArg some (by kernel_rfl))
 f335:=Tryz.func314.trans (congrArg some (by kernel_rfl))
 f336:=Tryz.func315.trans (congrArg some (by kernel_rfl))
 f344:=Tryz.func324.trans (congrArg some (by kernel_rfl))
 t0:=Tryz.underlying0
 a0:=Tryz.isAgg0
 z0:=Tryz.sizeOf0
 v0:=Tryz.zeroValue0
 t3:=Tryz.underlying3
 a3:=Tryz.isAgg3
 z3:=Tryz.sizeOf3
 v3:=Tryz.zeroValue3
 t4:=Tryz.underlying4
 a4:=Tryz.isAgg4
 z4:=Tryz.sizeOf4
 v4:=Tryz.zeroValue4
 t5:=Tryz.underlying5
 a5:=Tryz.isAgg5
 z5:=Tryz.sizeOf5
 v5:=Tryz.zeroValue5
 t9:=Tryz.underlying9
 a9:=Tryz.isAgg9
 z9:=Tryz.sizeOf9
 v9:=Tryz.zeroValue9
 t31:=Tryz.underlying66
 a31:=Tryz.isAgg66
 z31:=Tryz.sizeOf66
 v31:=Tryz.zeroValue66
 t46:=Tryz.underlying329
 a46:=Tryz.isAgg329
 z46:=Tryz.sizeOf329
 v46:=Tryz.zeroValue329
 t51:=Tryz.underlying350
 a51:=Tryz.isAgg350
 z51:=Tryz.sizeOf350
 v51:=Tryz.zeroValue350
 t53:=Tryz.underlying268
 a53:=Tryz.isAgg268
 z53:=Tryz.sizeOf268
 v53:=Tryz.zeroValue268
 t131:=Tryz.underlying157
 a131:=Tryz.isAgg157
 z131:=Tryz.sizeOf157
 v131:=Tryz.zeroValue157
 t182:=Tryz.underlying342
 a182:=Tryz.isAgg342
 z182:=Tryz.sizeOf342
 v182:=Tryz.zeroValue342
 t183:=Tryz.underlying343
 a183:=Tryz.isAgg343
 z183:=Tryz.sizeOf343
 v183:=Tryz.zeroValue343
 t218:=Tryz.underlying364
 a218:=Tryz.isAgg364
 z218:=Tryz.sizeOf364
 v218:=Tryz.zeroValue364
 t222:=Tryz.underlying368
 a222:=Tryz.isAgg368
 z222:=Tryz.sizeOf368
 v222:=Tryz.zeroValue368
 t228:=Tryz.underlying373
 a228:=Tryz.isAgg373
 z228:=Tryz.sizeOf373
 v228:=Tryz.zeroValue373
 t229:=Tryz.underlying374
 a229:=Tryz.isAgg374
 z229:=Tryz.sizeOf374
 v229:=Tryz.zeroValue374}
end Go.Proofs
set_option linter.unusedVariables false
set_option linter.unusedSimpArgs false
namespace Go.Aa
open Go.Proofs Go.RowKit
variable{P:Program}{G:Ghost}{w w':World}{H:Heap}
theorem ARep.app{u1 u2:List Value}{c1 c2:List AV}(h1:ARep G w u1 c1)(h2:ARep G w u2 c2):ARep G w (u1++u2) (c1++c2):=by
 refine⟨by simp[h1.1,h2.1],fun i i1 i2=> ?_⟩
 by_cases h:i<u1.length
 ·rw[List.getElem_append_left h,List.getElem_append_left (by rw[←h1.1];exact h)]
  exact h1.2 i h _
 ·rw[List.getElem_append_right (by omega),List.getElem_append_right (by rw[←h1.1];omega)]
  have:=h2.2 (i-u1.length) (by simp only[List.length_append]at i1;omega) (by have:=h1.1;simp only[List.length_append]at i2;omega)
  simp only[h1.1]at this⊢
  exact this
theorem ARep.tk{us:List Value}{cs:List AV}(o:Nat)(h:ARep G w us cs):ARep G w (us.take o) (cs.take o):=
 ⟨by simp[h.1],fun i i1 i2=>by simp only[List.getElem_take];exact h.2 i _ _⟩
theorem ARep.dr{us:List Value}{cs:List AV}(o:Nat)(h:ARep G w us cs):ARep G w (us.drop o) (cs.drop o):=
 ⟨by simp[h.1],fun i i1 i2=>by simp only[List.getElem_drop];exact h.2 _ _ _⟩
end Go.Aa
namespace Go.Aa.T
open Go.Aa Go.Proofs Go.RowKit
set_option maxHeartbeats 4000000 in
set_option maxRecDepth 100000 in
theorem clone_nil(n c:Nat)(w:World):Calls Tryz.prog 152 #[.slice none n c] w fun e w'=>e=.returned (.slice none 0 0)∧w'=w:=by
 have q22:∀(w:World)(a:Option Addr)(n c n' c':Nat),(binOp .eql 23 (.slice a n c) (.slice none n' c')).run Tryz.prog w=.ok (.bool a.isNone) w:=fun w a n c n' c'=>Lib.run_eql_slice_nil w _ _ a n c n' c' Tryz.underlying23
 go_enter Tryz.func152,Tryz.ntmps152
 go_wp2
 go_ret
 exact⟨rfl,rfl⟩
set_option maxHeartbeats 4000000 in
set_option maxRecDepth 100000 in
theorem clone_some(a:Addr)(n c:Nat)(w:World)(r:Value)(w2:World)(hr:(Builtin.append_ #[23,23] 23 #[.slice (some ⟨w.heap.size,0,none⟩) 0 0,.slice (some a) n c]).run Tryz.prog (w.alloc (.cells #[] 81))=.ok r w2):
 Calls Tryz.prog 152 #[.slice (some a) n c] w fun e w'=>e=.returned r∧w'=w2:=by
 have q22:∀(w:World)(a:Option Addr)(n c n' c':Nat),(binOp .eql 23 (.slice a n c) (.slice none n' c')).run Tryz.prog w=.ok (.bool a.isNone) w:=fun w a n c n' c'=>Lib.run_eql_slice_nil w _ _ a n c n' c' Tryz.underlying23
 obtain⟨ab,ao,asp⟩:=a
 go_enter Tryz.func152,Tryz.ntmps152
 go_wp2_with(at_builtin;refine Lib.wpList_append_run _ rfl _ _ _ _ rfl _ _ rfl rfl _ _ hr ?_)
 go_ret
 exact⟨rfl,rfl⟩
theorem info_el:∃i z,Tryz.prog.info? 81=some i∧i.zero=some z∧z.cells.size=11∧i.size=11∧i.bytes=184:=by
 have h:((Tryz.prog.info? 81).any fun i=>i.zero.any (fun z=>z.cells.size==11)&&(i.size==11&&i.bytes==184))=true:=by kernel_rfl
 obtain⟨i,hi,h⟩:=(Option.any_eq_true _ _).1 h
 simp only[Bool.and_eq_true,beq_iff_eq]at h
 obtain⟨h,h2,h3⟩:=h
 obtain⟨z,hz,h⟩:=(Option.any_eq_true _ _).1 h
 exact⟨i,z,hi,hz,by simpa using h,h2,h3⟩
theorem ext_clone:ExtOk Tryz.prog 152 (cloneE 11 184):=by
 intro az H v H' hg G w vs hH hargs
 unfold cloneE at hg
 split at hg
 ·rename_i k l
  obtain⟨i,z,hi,hz,hzs,his,hib⟩:=info_el
  rw[←his,←hib]at hg
  obtain⟨u,rfl,hr⟩:=args_1 hargs
  have hu:∃b n c,u=.slice b n c:=by
   cases hr with
   |sl0 a c=>exact⟨_,_,_,rfl⟩
   |sl a c=>exact⟨_,_,_,rfl⟩
  obtain⟨b,n,c,rfl⟩:=hu
  cases b with
  |none=>
   refine .inl ⟨w,by kernel_rfl,(clone_nil n c w).mono fun e1 w' hh=> ?_,rfl⟩
   obtain⟨rfl,rfl⟩:=hh
   cases hr with
   |sl0 a c=>
    simp only[appendMA,Option.some.injEq,Prod.mk.injEq]at hg
    obtain⟨rfl,rfl⟩:=hg
    exact⟨G,.refl _ _,hH,_,rfl,.sl0 none 0 .nil (fun _=>rfl) (fun t e=>by cases e)⟩
  |some a=>
   have hg1:=Grow.alloc (w:=w) hH.base (.cells #[] 81) 0
   have hst:=hg1.step hH.base
   have hx:Rep (G.set w.heap.size 0) (w.alloc (.cells #[] 81)) (.slice (some ⟨w.heap.size,0,none⟩) 0 0) (.sl .full []):=.sl0 _ _ _ (fun _=>rfl) (fun t e=>by cases e)
   obtain⟨r,w2,G2,j1,j2,j3,j4⟩:=run_appendMA (ty:=23) (hH.grow hg1) hx (hr.step hst) hg Tryz.underlying23 Tryz.underlying23 hi hz (by rw[hzs,his]) (by rw[his];decide) (by rw[hib];decide)
   refine .inl ⟨w,by kernel_rfl,(clone_some a n c w r w2 j1).mono fun e1 w' hh=> ?_,rfl⟩
   obtain⟨rfl,rfl⟩:=hh
   exact⟨G2,hst.trans j2,j3,_,rfl,j4⟩
 ·cases hg
end Go.Aa.T
set_option linter.unusedVariables false
set_option linter.unusedSimpArgs false
set_option maxRecDepth 100000
namespace Go.Aa.T
open Go.Aa Go.Proofs Go.RowKit Go.Shelf
theorem cfgOk:CfgOk Tryz.prog cfg:=by
 refine⟨by kernel_rfl,fun f A h=>tab_fn h,fun f g h=> ?_,fun f h=> ?_⟩
 ·have h:extF f=some g:=h
  unfold extF at h
  split at h<;>simp only[Option.some.injEq,reduceCtorEq]at h<;>subst h
  ·exact ext_trim (fun _ _=>by kernel_rfl) fun s c w h1 h2 h3=>Any.strings_Trim_laid Tryz.lays160 (by kernel_rfl) s c w h1 h2 h3
  ·exact ext_sort (fun _ _=>by kernel_rfl) (fun a c w=>Any.slices_Sort_string_none Tryz.lays190 a c w) fun blk off cap ss w h1 h2 h3=>Any.slices_Sort_string Tryz.lays190 blk off cap ss w h1 h2 h3
  ·exact ext_index (fun _ _=>by kernel_rfl) fun s c w=>Any.strings_Index_one Tryz.lays143 s c w
  ·exact ext_count (fun _ _=>by kernel_rfl) fun s c w=>Any.strings_Count_one Tryz.lays138 s c w
  ·exact ext_clone
  ·exact ext_bits fun b w=>by
    rw[run_callFunc_extern (fn:=Tryz.f201) Tryz.func201 (by kernel_rfl) (by kernel_rfl) (by kernel_rfl) (e:=Extern.MathFloatBits.float64bits) (by kernel_rfl)]
    rfl
  ·exact ext_frombits fun n w=>by
    rw[run_callFunc_extern (fn:=Tryz.f258) Tryz.func258 (by kernel_rfl) (by kernel_rfl) (by kernel_rfl) (e:=Extern.MathFloatBits.float64frombits) (by kernel_rfl)]
    rfl
 ·have h:(f==66)=true:=h
  have:f=66:=by simpa using h
  subst this
  exact Go.Proofs.YthlhlfiklmmenaaGreatDoor.T.tryOk
#print axioms cfgOk
end Go.Aa.T
set_option linter.unusedVariables false
set_option linter.unusedSimpArgs false
namespace Go.Aa
variable{P:Program}{R:List (Nat×Nat)}
def rkOf(R:List (Nat×Nat))(u:Nat):Option Nat:=(R.find? fun p=>p.1==u).map (·.2)
def rkB(P:Program)(R:List (Nat×Nat)):Bool:=R.all fun p=>(P.partsOf p.1).all fun v=>match rkOf R v with
 |some r=>Nat.blt r p.2
 |none=>false
theorem rk_part(h:rkB P R=true){u ru v:Nat}(hu:rkOf R u=some ru)(hv:v∈P.partsOf u):∃r,rkOf R v=some r∧r<ru:=by
 unfold rkOf at hu
 obtain⟨p,hp,rfl⟩:=Option.map_eq_some_iff.1 hu
 have hm:=List.mem_of_find?_eq_some hp
 have he:=List.find?_some hp
 simp only[beq_iff_eq]at he
 have h1:=List.all_eq_true.1 h p hm
 rw[he]at h1
 have h2:=List.all_eq_true.1 h1 v hv
 split at h2
 ·rename_i r hr
  exact⟨r,hr,by simpa using h2⟩
 ·cases h2
theorem rk_grow(h:rkB P R=true){s:List TypeId}{r:Nat}(hs:∀x∈s,∃q,rkOf R x=some q∧q≤r):∀x∈P.grow s,∃q,rkOf R x=some q∧q≤r:=by
 intro x hx
 unfold Program.grow at hx
 rw[List.mem_eraseDups,List.mem_append]at hx
 rcases hx with hx|hx
 ·exact hs x hx
 ·obtain⟨u,hu,hx⟩:=List.mem_flatMap.1 hx
  obtain⟨q,hq,hl⟩:=hs u hu
  obtain⟨q',hq',hl'⟩:=rk_part h hq hx
  exact⟨q',hq',by omega⟩
theorem rk_grown(h:rkB P R=true){r:Nat}:∀(n:Nat){s:List TypeId},(∀x∈s,∃q,rkOf R x=some q∧q≤r)→∀x∈P.grown n s,∃q,rkOf R x=some q∧q≤r
 |0,_,hs=>hs
 |n+1,_,hs=>rk_grown h n (rk_grow h hs)
theorem rk_book(h:rkB P R=true){t r:Nat}(ht:rkOf R t=some r):∀x∈P.book t,∃q,rkOf R x=some q∧q≤r:=
 rk_grown h _ fun x hx=>by
  rw[List.mem_singleton]at hx
  subst hx
  exact⟨r,ht,Nat.le_refl _⟩
theorem rk_loops(h:rkB P R=true){t r:Nat}(ht:rkOf R t=some r):P.loopsFrom t=false:=by
 unfold Program.loopsFrom
 rw[List.any_eq_false]
 intro u hu
 obtain⟨ru,hu1,-⟩:=rk_book h ht u hu
 simp only[Bool.not_eq_true]
 rw[List.any_eq_false]
 intro v hv
 obtain⟨rv,hv1,hlt⟩:=rk_part h hu1 hv
 intro hc
 have hm:u∈P.book v:=by simpa using hc
 obtain⟨q,hq,hl⟩:=rk_book h hv1 u hm
 rw[hu1]at hq
 simp only[Option.some.injEq]at hq
 omega
theorem rk_all(h:rkB P R=true){ts:List TypeId}(ht:(ts.all fun t=>(rkOf R t).isSome)=true):ts.any (P.loopsFrom ·)=false:=by
 rw[List.any_eq_false]
 intro t hm
 have:=List.all_eq_true.1 ht t hm
 obtain⟨r,hr⟩:=Option.isSome_iff_exists.1 this
 rw[rk_loops h hr]
 exact Bool.false_ne_true
end Go.Aa
