import Derived.Test.YthlhlfiklmmenaaGreatDoorYsanb
import Derived.CallsIn
import Derived.RangeFuncIn
import Derived.RangeFuncRecord
import Derived.OrdersIn
set_option linter.unusedVariables false
set_option linter.unusedSimpArgs false
namespace Go.Aa
open Go.RowKit
variable{P:Program}{G G':aF}{w w':World}
def W(ro:Option Nat):Fence:={Fence.wide with round:=ro}
def fk(G:aF)(w:World)(vs:Array Value)(az:List AV):Prop:=vs.size=az.length∧∀i(h1:i<vs.size)(h2:i<az.length),bG G w vs[i] az[i]
theorem fk.step{vs:Array Value}{az:List AV}(h:fk G w vs az)(hst:Step G w G' w'):fk G' w' vs az:=⟨h.1,fun i h1 h2=>(h.2 i h1 h2).step hst⟩
theorem fk.append{us vs:Array Value}{az bs:List AV}(h:fk G w us az)(k:fk G w vs bs):fk G w (us++vs) (az++bs):=by
 refine⟨by simp[h.1,k.1],fun i h1 h2=> ?_⟩
 rw[Array.getElem_append,List.getElem_append]
 by_cases hi:i<us.size
 ·rw[dif_pos hi,dif_pos (by rw[←h.1];exact hi)]
  exact h.2 i hi _
 ·rw[dif_neg hi,dif_neg (by rw[←h.1];exact hi)]
  have e:i-us.size=i-az.length:=by rw[h.1]
  have:=k.2 (i-us.size) (by simp at h1;omega) (by have:=h.1;simp at h2;omega)
  simpa[e]using this
def AR(G:aF)(w:World)(e:Ending):cZ→Prop
 |.ret v=>∃u,e=.returned u∧bG G w u v
 |.cS v=>∃u,e=.panicked [{v:=u,recovered:=false}]∧bG G w u v
def gD(P:Program)(G:aF)(w:World)(r:cZ)(H':Heap)(e:Ending)(w':World):Prop:=∃G',Step G w G' w'∧bB P G' w' H'∧AR G' w' e r
def k8(P:Program)(f:FuncId)(vs:Array Value)(w:World)(R:Ending→World→Prop):Prop:=
 (∃w1,(callFunc f vs).run P w=.ok (.enter f vs) w∧Calls P f vs w R∧w1=w)∨∃u w',(callFunc f vs).run P w=.ok (.value u) w'∧R (.returned u) w'
theorem k8.mono{f:FuncId}{vs:Array Value}{R R':Ending→World→Prop}(h:k8 P f vs w R)(hr:∀e w',R e w'→R' e w'):k8 P f vs w R':=by
 rcases h with⟨w1,h1,h2,h3⟩|⟨u,w',h1,h2⟩
 ·exact .inl ⟨w1,h1,h2.mono hr,h3⟩
 ·exact .inr ⟨u,w',h1,hr _ _ h2⟩
structure cX(P:Program)(call:bL):Prop where
 fn:∀f az H r H',call (.fn f) az H=some (r,H')→∀G w vs,bB P G w H→fk G w vs az→k8 P f vs w (gD P G w r H')
 yl:∀l az H r H',call (.yl l) az H=some (r,H')→∀G w vs,bB P G w H→fk G w vs az→l<H.loops.length→
  ∃rec,w.heap[G.ln l]?=some (.loop rec)∧vs.size=rec.params.size∧RoundIn (W none) 0 P (G.ln l) rec.fn ((rec.params.zip vs).foldl (fun tmps(t,a)=>tmps.setIfInBounds t a) rec.tmps) rec.assign rec.body w (gD P G w r H')
theorem IC{ro:Option Nat}{f:FuncId}{vs:Array Value}{R:Ending→World→Prop}(h:Calls P f vs w R):CallsIn (W ro) 0 P f vs w R:=callsIn_wide.2 h
theorem qp{x:AV}(h:sJ x=true){v:Value}(hr:bG G w v x):x.Data:=by
 cases x<;>try exact gC h hr
 ·rename_i cs
  cases hr with
  |agg us _ hn hr=>
  exact .agg _ fun y hy=>by
   obtain⟨i,hi,rfl⟩:=List.getElem_of_mem hy
   exact gC (List.all_eq_true.1 h _ (List.getElem_mem hi)) (hr i (by omega) hi)
 ·rename_i f cs
  cases hr with
  |func _ us _ hn hr=>
  exact .func _ _ fun y hy=>by
   obtain⟨i,hi,rfl⟩:=List.getElem_of_mem hy
   exact gC (List.all_eq_true.1 h _ (List.getElem_mem hi)) (hr i (by omega) hi)
theorem qq{x:AV}(h:fH x=true){v:Value}(hr:bG G w v x):x.Data:=by
 cases x<;>try exact qp h hr
 rename_i t y
 cases hr with
 |iface _ u _ hr=>exact .iface _ _ (qp h hr)
theorem e8{x:AV}(h:bK x=true){v:Value}(hr:bG G w v x):x.Data:=by
 cases x<;>try exact qq h hr
 rename_i cs
 cases hr with
 |tuple us _ hn hr=>
 exact .tuple _ fun y hy=>by
  obtain⟨i,hi,rfl⟩:=List.getElem_of_mem hy
  exact qq (List.all_eq_true.1 h _ (List.getElem_mem hi)) (hr i (by omega) hi)
def aF.bare(G:aF):aF:={G with nb:=0,nt:=0,nl:=0}
theorem sY{H:Heap}(hH:bB P G w H):bB P G.bare w Heap.nil:=
 ⟨hH.base,rfl,rfl,rfl,fun k hk=>absurd hk (by simp[Heap.nil]),fun i j hi=>absurd hi.1 (by simp[aF.bare]),fun k hk=>absurd hk.1 (by simp[aF.bare]),fun t ht=>absurd ht (by simp[Heap.nil]),fun i j hi=>absurd hi (by simp[aF.bare]),
  fun k t hk=>absurd hk.1 (by simp[aF.bare]),fun l hl=>absurd hl (by simp[Heap.nil]),fun i j hi=>absurd hi (by simp[aF.bare]),
  hH.j5.BV (fun g _=>⟨fun k hk=>absurd hk.1 (by simp[aF.bare]),fun k hk=>absurd hk (by simp[aF.bare]),fun k hk=>absurd hk (by simp[aF.bare])⟩) (fun _ _ _ _ _ h=>h)⟩
theorem sZ{vs:Array Value}{az:List AV}(h:fk G w vs az)(hd:∀x∈az,bK x=true):fk G.bare w vs az:=
 ⟨h.1,fun i h1 h2=>(h.2 i h1 h2).data (e8 (hd _ (List.getElem_mem h2)) (h.2 i h1 h2)) fun _=>Nat.le_refl _⟩
theorem oc{H:Heap}(hH:bB P G w H){G1:aF}(hst:Step G.bare w G1 w')(hb:pH G1 w'):Grow G w {G with lim:=G1.lim} w':=
 ⟨rfl,hst.os,hst.tape,hst.output,hst.size,fun b hb'=>hst.frame b hb' (fun k hk=>absurd hk.1 (by simp[aF.bare])) (fun t ht=>absurd ht (by simp[aF.bare])) (fun l hl=>absurd hl (by simp[aF.bare])),hb⟩
theorem qs{nb nt nl:Nat}{v:Value}{x:AV}(hr:bG G w v x)(h:yA nb nt x=true):Fits nb nt nl x:=by
 cases hr with
 |ptr k off hk=>exact .ptr k off (by simpa[yA]using h)
 |cY k off n c es hk hc=>exact .cY k off n es (by simpa[yA]using h)
 |sl a c k l es us hl hc hcm hs ji fA hd hlim hcell bZ hfull hown=>exact .sl k l fun t ht=>by subst ht;simpa[yA]using h
 |gZ a c k hc ht=>exact .sl _ _ fun t e=>absurd e (ht t)
 |agg=>simp[yA]at h
 |tuple=>simp[yA]at h
 |func=>simp[yA]at h
 |iface=>simp[yA]at h
 |yield=>simp[yA]at h
 |ref a cs us hs hd=>exact .data _ (.ref _ hd)
 |undef=>exact .data _ .undef
 |bool=>exact .data _ (.bool _)
 |int=>exact .data _ (.int _ _)
 |bQ=>exact .data _ (.bQ _)
 |nan _ hn=>exact .data _ .nan
 |str=>exact .data _ (.str _)
 |dO=>exact .data _ .dO
 |nilFunc=>exact .data _ .nilFunc
 |nilIface=>exact .data _ .nilIface
theorem wq{nb nt nl:Nat}{v:Value}{x:AV}(hr:bG G w v x)(h:Og nb nt x=true):Fits nb nt nl x:=by
 cases x<;>try exact qs hr h
 ·cases hr with
  |agg us _ hn hr=>exact .agg _ fun y hy=>by obtain⟨i,hi,rfl⟩:=List.getElem_of_mem hy;exact qs (hr i (by omega) hi) (List.all_eq_true.1 h _ hy)
 ·cases hr with
  |func _ us _ hn hr=>exact .func _ _ fun y hy=>by obtain⟨i,hi,rfl⟩:=List.getElem_of_mem hy;exact qs (hr i (by omega) hi) (List.all_eq_true.1 h _ hy)
theorem iV{nb nt nl:Nat}{v:Value}{x:AV}(hr:bG G w v x)(h:rZ nb nt x=true):Fits nb nt nl x:=by
 cases x<;>try exact wq hr h
 cases hr with
 |iface _ u _ hr=>exact .iface _ _ (wq hr h)
theorem k9{nb nt nl:Nat}{v:Value}{x:AV}(hr:bG G w v x)(h:within nb nt x=true):Fits nb nt nl x:=by
 cases x<;>try exact iV hr h
 cases hr with
 |tuple us _ hn hr=>exact .tuple _ fun y hy=>by obtain⟨i,hi,rfl⟩:=List.getElem_of_mem hy;exact iV (hr i (by omega) hi) (List.all_eq_true.1 h _ hy)
def aF.cut(G:aF)(nb nt nl:Nat):aF:={G with nb:=nb,nt:=nt,nl:=nl}
theorem Step.cut{nb nt nl:Nat}(h:Step G w G' w')(h1:G.nb≤nb)(h2:nb≤G'.nb)(h3:G.nt≤nt)(h4:nt≤G'.nt)(h5:G.nl≤nl)(h6:nl≤G'.nl):Step G w (G'.cut nb nt nl) w':=
 ⟨h.os,h.tape,h.output,h.size,h.lim,h.cell,h1,h.hole,h.μ,fun k k2=>h.jJ k ⟨Nat.lt_of_lt_of_le k2.1 h2,k2.2⟩,h.mc,h3,h.ext,h.τ,h.mw,fun t ht=>h.kH t (Nat.lt_of_lt_of_le ht h4),h5,h.ln,
  fun k k1 k2=>h.pF k k1 (Nat.lt_of_lt_of_le k2 h6),h.frame⟩
theorem oe{H:Heap}{nb:Nat}{ts:List Nat}{ls:List jk}{k:Nat}(hk:k<nb)(h:c8 ⟨H.boxes.take nb,ts,ls⟩ k):c8 H k:=by
 unfold c8 at h⊢
 simp only[List.getElem?_take,hk,if_true]at h
 exact h
theorem bB.cut{H:Heap}(h:bB P G w H){nb nt nl:Nat}(h1:nb≤G.nb)(h2:nt≤G.nt)(h3:nl≤G.nl)
 (hb:∀cs∈H.boxes.take nb,∀x∈cs,∀v,bG G w v x→Fits nb nt nl x)(hl:∀r∈H.loops.take nl,r.nb≤nb∧r.nt≤nt∧r.nl≤nl):
 bB P (G.cut nb nt nl) w ⟨H.boxes.take nb,H.toks.take nt,H.loops.take nl⟩:=by
 have eb:=h.nb
 have et:=h.nt
 have el:=h.nl
 refine⟨h.base,by simp[aF.cut];omega,by simp[aF.cut];omega,by simp[aF.cut];omega,fun k hk hh=> ?_,fun i j hi hj li lj=>h.fI i j ⟨Nat.lt_of_lt_of_le hi.1 h1,hi.2⟩ ⟨Nat.lt_of_lt_of_le hj.1 h1,hj.2⟩ (oe hi.1 li) (oe hj.1 lj),
  fun k hk lk=>h.gw k ⟨Nat.lt_of_lt_of_le hk.1 h1,hk.2⟩ (oe hk.1 lk),fun t ht=> ?_,fun i j hi hj=>h.gR i j (Nat.lt_of_lt_of_le hi h2) (Nat.lt_of_lt_of_le hj h2),
  fun k t hk ht=>h.jF k t ⟨Nat.lt_of_lt_of_le hk.1 h1,hk.2⟩ (Nat.lt_of_lt_of_le ht h2),fun l hl'=> ?_,fun i j hi hj=>h.kQ i j (Nat.lt_of_lt_of_le hi h3) (Nat.lt_of_lt_of_le hj h3),
  h.j5.BV (fun g hg=>⟨fun k hk=>hg.1 k ⟨Nat.lt_of_lt_of_le hk.1 h1,hk.2⟩,fun t ht=>hg.2.1 t (Nat.lt_of_lt_of_le ht h2),fun l hl=>hg.2.2 l (Nat.lt_of_lt_of_le hl h3)⟩) (fun _ _ _ _ _ h=>h)⟩
 ·have hk':k<H.boxes.length:=by simp at hk;omega
  obtain⟨us,e,a1,a2,a3⟩:=h.box k hk' hh
  have hm:(H.boxes.take nb)[k]∈H.boxes.take nb:=List.getElem_mem hk
  have hg:(H.boxes.take nb)[k]=H.boxes[k]:=by simp
  refine⟨us,e,a1,by simpa[hg,aF.cut]using a2,fun i i1 i2=> ?_⟩
  have VR:i<(H.boxes[k]).length:=by simpa using i2
  have r:=a3 i i1 VR
  have:=r.cut (nb:=nb) (nt:=nt) (nl:=nl) (hb _ hm _ (by rw[hg];exact List.getElem_mem VR) _ r)
  simpa[aF.cut]using this
 ·have ht':t<H.toks.length:=by simp at ht;omega
  obtain⟨a1,a2⟩:=h.tok t ht'
  exact⟨by simpa[aF.cut]using a1,a2⟩
 ·have LH:l<H.loops.length:=by simp at hl';omega
  obtain⟨rec,a1,a2⟩:=h.loop l LH
  refine⟨rec,a1,?_⟩
  have hg:(H.loops.take nl)[l]=H.loops[l]:=by simp
  obtain⟨n1,n2,n3⟩:=hl _ (List.getElem_mem hl')
  simp only[hg]at n1 n2 n3
  obtain⟨b1,b2,b3,b4,⟨b5,b6,b7,b8⟩,Xq,R6,c1,c2⟩:=a2
  show k5 P (G.cut nb nt nl) w (H.loops.take nl)[l] rec
  rw[hg]
  exact⟨b1,b2,b3,b4,⟨n1,n2,n3,b8⟩,Xq,R6,⟨c1.size,fun i=>(c1.get i).cut ((b8 i).mono n1 n2 n3)⟩,c2⟩
theorem iW{α:Type}(l:List α):l.take l.length=l:=by simp
theorem fP{H:Heap}{u:Value}{v:AV}(hst:Step G w G' w')(hH:bB P G' w' H)(hr:bG G' w' u v):∃LW,Step G w LW w'∧bB P LW w' (de G.nb G.nt v H)∧bG LW w' u v:=by
 have eb:=hH.nb
 have et:=hH.nt
 have el:=hH.nl
 have key:∀nb nt,G.nb≤nb→nb≤G'.nb→G.nt≤nt→nt≤G'.nt→(∀cs∈H.boxes.take nb,∀x∈cs,∀v,bG G' w' v x→Fits nb nt G'.nl x)→(∀r∈H.loops,r.nb≤nb∧r.nt≤nt∧r.nl≤G'.nl)→Fits nb nt G'.nl v→
  ∃LW,Step G w LW w'∧bB P LW w' ⟨H.boxes.take nb,H.toks.take nt,H.loops⟩∧bG LW w' u v:=by
  intro nb nt h1 h2 h3 h4 hb hl hv
  refine⟨G'.cut nb nt G'.nl,hst.cut h1 h2 h3 h4 hst.nl (Nat.le_refl _),?_,hr.cut hv⟩
  have:=hH.cut (nb:=nb) (nt:=nt) (nl:=G'.nl) h2 h4 (Nat.le_refl _) hb (fun r hr=>hl r (List.mem_of_mem_take hr))
  rwa [el,iW,←el]at this
 have hlo:∀r∈H.loops,r.nb≤G'.nb∧r.nt≤G'.nt∧r.nl≤G'.nl:=fun r hr=>by
  obtain⟨l,hl,rfl⟩:=List.getElem_of_mem hr
  obtain⟨rec,_,a2⟩:=hH.loop l hl
  exact⟨a2.fits.1,a2.fits.2.1,a2.fits.2.2.1⟩
 have LX:=hst.nb
 have Eh:=hst.nt
 unfold de
 simp only
 by_cases hB:(H.loops.all (fun r=>decide (r.nb≤G.nb))&&within G.nb H.toks.length v&&(H.boxes.take G.nb).all (·.all (rZ G.nb H.toks.length)))=true
 ·rw[if_pos hB]
  simp only[Bool.and_eq_true,List.all_eq_true,decide_eq_true_eq]at hB
  obtain⟨⟨b1,b2⟩,b3⟩:=hB
  have S3:(H.boxes.take G.nb).length=G.nb:=by simp;omega
  by_cases hT:(H.loops.all (fun r=>decide (r.nt≤G.nt))&&within (H.boxes.take G.nb).length G.nt v&&(H.boxes.take G.nb).all (·.all (rZ (H.boxes.take G.nb).length G.nt)))=true
  ·rw[if_pos hT]
   simp only[Bool.and_eq_true,List.all_eq_true,decide_eq_true_eq,S3]at hT
   obtain⟨⟨t1,t2⟩,t3⟩:=hT
   exact key G.nb G.nt (Nat.le_refl _) LX (Nat.le_refl _) Eh (fun cs hcs x hx v hv=>iV hv (t3 cs hcs x hx)) (fun r hr=>⟨b1 r hr,t1 r hr,(hlo r hr).2.2⟩) (k9 hr t2)
  ·rw[if_neg hT]
   have:=key G.nb G'.nt (Nat.le_refl _) LX Eh (Nat.le_refl _) (fun cs hcs x hx v hv=>by rw[et];exact iV hv (b3 cs hcs x hx)) (fun r hr=>⟨b1 r hr,(hlo r hr).2⟩) (by rw[et];exact k9 hr b2)
   rwa [et,iW]at this
 ·rw[if_neg hB]
  by_cases hT:(H.loops.all (fun r=>decide (r.nt≤G.nt))&&within H.boxes.length G.nt v&&H.boxes.all (·.all (rZ H.boxes.length G.nt)))=true
  ·rw[if_pos hT]
   simp only[Bool.and_eq_true,List.all_eq_true,decide_eq_true_eq]at hT
   obtain⟨⟨t1,t2⟩,t3⟩:=hT
   have:=key G'.nb G.nt LX (Nat.le_refl _) (Nat.le_refl _) Eh (fun cs hcs x hx v hv=>by rw[eb];exact iV hv (t3 cs (List.mem_of_mem_take hcs) x hx)) (fun r hr=>⟨(hlo r hr).1,t1 r hr,(hlo r hr).2.2⟩) (by rw[eb];exact k9 hr t2)
   rwa [eb,iW]at this
  ·rw[if_neg hT]
   exact⟨G',hst,hH,hr⟩
theorem og{es:Nat}:∀(n:Nat)(cs:List AV),(eY es n cs).length=n
 |0,_=>rfl
 |n+1,cs=>by simp[eY,og n]
theorem tc{es:Nat}:∀(n:Nat)(cs:List AV)(i:Nat)(hi:i<(eY es n cs).length),(eY es n cs)[i]=if es=1 then(cs.drop (i*es)).headD .undef else .agg ((cs.drop (i*es)).take es)
 |0,cs,i,hi=>absurd hi (by simp[eY])
 |n+1,cs,i,hi=>by
  cases i with
  |zero=>simp[eY]
  |succ i=>
   simp only[eY,List.getElem_cons_succ]
   rw[tc n (cs.drop es) i (by simpa[eY]using hi)]
   simp only[List.drop_drop]
   have e:es+i*es=(i+1)*es:=by rw[Nat.add_mul];omega
   rw[e]
theorem wu{es n:Nat}{cs:List AV}(h0:0<es)(hle:n*es≤cs.length)(hd:cs.all bI=true)(i:Nat)(hi:i<(eY es n cs).length):((eY es n cs)[i]).cells=(cs.drop (i*es)).take es:=by
 rw[tc]
 have hin:i<n:=by rw[og]at hi;exact hi
 have hlt:i*es+es≤cs.length:=by
  have:=Nat.mul_le_mul_right es (show i+1≤n from hin)
  rw[Nat.add_mul]at this;omega
 split
 ·rename_i e1
  subst e1
  have hlt':i*1<cs.length:=by omega
  rw[List.drop_eq_getElem_cons hlt']
  simp only[List.headD_cons,List.take_succ_cons,List.take_zero]
  have:=List.all_eq_true.1 hd _ (List.getElem_mem hlt')
  generalize cs[i*1]=x at this
  cases x<;>first|rfl|simp[bI]at this
 ·rfl
theorem bG.lim{L:Nat→Nat}(hL:∀b,G.lim b≤L b){v:Value}{x:AV}(h:bG G w v x):bG {G with lim:=L} w v x:=
 bG.keep (G':={G with lim:=L}) ⟨hL,fun _ _ _=>rfl,Nat.le_refl _,fun _ h=>h,fun _ _=>rfl,Nat.le_refl _,fun _ _=>Nat.le_refl _,fun _ _ _=>⟨rfl,rfl⟩,fun _ _=>rfl,Nat.le_refl _,fun _ _=>rfl,fun _ _=>rfl⟩ h
theorem bG.OO{L L':Nat→Nat}(hL:∀b,L b≤L' b){v:Value}{x:AV}(h:bG {G with lim:=L} w v x):bG {G with lim:=L'} w v x:=
 bG.lim (G:={G with lim:=L}) hL h
def gS(G:aF)(L L':Nat→Nat):Prop:=(∀b,L b≤L' b)∧∀b,L' b≠L b→∃k,G.on k∧b=G.μ k
theorem gS.refl(G:aF)(L:Nat→Nat):gS G L L:=⟨fun _=>Nat.le_refl _,fun _ h=>absurd rfl h⟩
theorem gS.trans{L1 L2 L3:Nat→Nat}(h:gS G L1 L2)(k:gS G L2 L3):gS G L1 L3:=by
 refine⟨fun b=>Nat.le_trans (h.1 b) (k.1 b),fun b hb=> ?_⟩
 by_cases e:L3 b=L2 b
 ·exact h.2 b (by rw[←e];exact hb)
 ·exact k.2 b e
theorem wz{H:Heap}(hH:bB P G w H){L:Nat→Nat}(hL:gS G G.lim L){u:Value}{x y:AV}(hr:bG G w u x)(h:DV H x=some y):∃L',gS G L L'∧bG {G with lim:=L'} w u y:=by
 have other:x=y→∃L',gS G L L'∧bG {G with lim:=L'} w u y:=fun e=>⟨L,.refl _ _,by rw[←e];exact hr.lim hL.1⟩
 unfold DV at h
 split at h
 ·rename_i k off n es
  split at h
  ·rename_i cs hcs
   split at h
   ·rename_i hc
    obtain⟨hle,-,fA,hd⟩:=hc
    simp only[Option.some.injEq]at h
    subst h
    cases hr with
    |cY _ _ _ c _ hk hnc hcm _ hcap=>
    by_cases hn0:n=0
    ·subst hn0
     exact⟨L,.refl _ _,.gZ _ _ _ (fun e=>by cases e) (fun t e=>by cases e)⟩
    obtain⟨hlt,k6⟩:=List.getElem?_eq_some_iff.1 hcs
    obtain⟨us,e,hb,⟨hsz,D8⟩,bZ⟩:=hH.box k hlt hk.2
    rw[k6]at hsz bZ
    let L':Nat→Nat:=fun b=>if b=G.μ k then max (L b) (off+n*es)else L b
    have hR:gS G L L':=by
     refine⟨fun b=> ?_,fun b hb=> ?_⟩
     ·show L b≤if b=G.μ k then max (L b) (off+n*es)else L b
      split
      ·exact Nat.le_max_left _ _
      ·exact Nat.le_refl _
     ·refine⟨k,hk,?_⟩
      refine Classical.byContradiction fun hne=>hb ?_
      show(if b=G.μ k then max (L b) (off+n*es)else L b)=L b
      rw[if_neg hne]
    refine⟨L',hR,?_⟩
    have hd':(cs.drop off).all bI=true:=List.all_eq_true.2 fun z hz=>List.all_eq_true.1 hd z (List.mem_of_mem_drop hz)
    have hle':n*es≤(cs.drop off).length:=by simp;omega
    have hlen:=og (es:=es) n (cs.drop off)
    have hcell:=fun i hi=>wu (i:=i) fA hle' hd' hi
    have hcl:∀i(hi:i<(eY es n (cs.drop off)).length),((eY es n (cs.drop off))[i]).cells.length=es:=fun i hi=>by
     rw[hcell i hi]
     have:i*es+es≤n*es:=by
      have:=Nat.mul_le_mul_right es (show i+1≤n by omega)
      rw[Nat.add_mul]at this;omega
     simp;omega
    have n7:∀i(hi:i<(eY es n (cs.drop off)).length)j(hj:j<((eY es n (cs.drop off))[i]).cells.length),∃(h1:off+(i*es+j)<cs.length)(h2:off+(i*es+j)<us.size),((eY es n (cs.drop off))[i]).cells[j]=cs[off+(i*es+j)]:=fun i hi j hj=>by
     have hj':j<es:=by rw[hcl i hi]at hj;exact hj
     have:i*es+es≤n*es:=by
      have:=Nat.mul_le_mul_right es (show i+1≤n by omega)
      rw[Nat.add_mul]at this;omega
     refine⟨by omega,by omega,?_⟩
     simp only[hcell i hi,List.getElem_take,List.getElem_drop]
    have key:bG {G with lim:=L'} w (.slice (some ⟨G.μ k,off,none⟩) (eY es n (cs.drop off)).length c) (.sl .sh (eY es n (cs.drop off))):=by
     refine .sl _ c .sh _ es (fun i j=>us.getD (off+(i*es+j)) undef) (fun e=>by rw[e]at hlen;simp at hlen;omega) (by rw[hlen];exact hnc) hcm rfl hcl fA (fun z hz y hy=> ?_) ?_ (fun i hi j hj=> ?_) (fun i hi j hj=> ?_) (fun e=>by cases e) (fun t e=>by cases e)
     ·obtain⟨i,hi,rfl⟩:=List.getElem_of_mem hz
      rw[hcell i hi]at hy
      have hm:=List.mem_of_mem_drop (List.mem_of_mem_take hy)
      have hm2:=List.mem_of_mem_drop hm
      obtain⟨q,hq,rfl⟩:=List.getElem_of_mem hm2
      exact gC (List.all_eq_true.1 hd _ hm2) (bZ q (by omega) hq)
     ·show off+(eY es n (cs.drop off)).length*es≤(if G.μ k=G.μ k then max (L (G.μ k)) (off+n*es)else L (G.μ k))
      rw[if_pos rfl,hlen]
      exact Nat.le_max_right _ _
     ·obtain⟨h1,h2,-⟩:=n7 i hi j (by rw[hcl i hi];exact hj)
      rw[dD rfl]
      simp[World.cell?,hb,Array.getD,h2]
     ·obtain⟨h1,h2,h3⟩:=n7 i hi j hj
      rw[h3]
      have:=(bZ _ h2 h1).lim (fun b=>Nat.le_trans (hL.1 b) (hR.1 b))
      simpa[Array.getD,h2]using this
    rwa [hlen]at key
   ·cases h
  ·cases h
 ·rename_i l
  simp only[Option.some.injEq]at h
  subst h
  refine⟨L,.refl _ _,?_⟩
  have hr:=hr.lim hL.1
  cases hr with
  |gZ a c _ hc ht=>exact .gZ _ _ _ (fun e=>by cases e) (fun t e=>by cases e)
  |sl a c _ l es us hl hc hcm hs ji fA hd hlim hcell bZ hfull hown=>exact .sl a c _ l es us hl hc hcm hs ji fA hd hlim hcell bZ (fun e=>by cases e) (fun t e=>by cases e)
 ·simp only[Option.some.injEq]at h
  exact other h
theorem wA{H:Heap}(hH:bB P G w H):∀{xs ys:List AV}{us:List Value}{L:Nat→Nat},gS G G.lim L→us.length=xs.length→(∀i(h1:i<us.length)(h2:i<xs.length),bG G w us[i] xs[i])→DW H xs=some ys→
 ∃L',gS G L L'∧us.length=ys.length∧∀i(h1:i<us.length)(h2:i<ys.length),bG {G with lim:=L'} w us[i] ys[i]
 |[],ys,us,L,hL,hl,hr,h=>by
  simp only[DW,Option.some.injEq]at h
  subst h
  exact⟨L,.refl _ _,hl,fun i h1 h2=>absurd h2 (by simp)⟩
 |x::xs,ys,[],L,hL,hl,hr,h=>by simp at hl
 |x::xs,ys,u::us,L,hL,hl,hr,h=>by
  simp only[DW]at h
  split at h
  ·rename_i y ys' h1 h2
   simp only[Option.some.injEq]at h
   subst h
   obtain⟨L1,r1,q1⟩:=wz hH hL (hr 0 (by simp) (by simp)) h1
   obtain⟨L2,r2,e2,q2⟩:=wA hH (hL.trans r1) (by simpa using hl) (fun i a b=>by
    have:=hr (i+1) (by simpa using a) (by simpa using b)
    simpa only[List.getElem_cons_succ]using this) h2
   refine⟨L2,r1.trans r2,by simpa using e2,fun i a b=> ?_⟩
   cases i with
   |zero=>exact q1.OO r2.1
   |succ i=>
    have:=q2 i (by simpa using a) (by simpa using b)
    simpa only[List.getElem_cons_succ]using this
  ·cases h
theorem wB{H:Heap}(hH:bB P G w H){L:Nat→Nat}(hL:gS G G.lim L){u:Value}{x y:AV}(hr:bG G w u x)(h:DX H x=some y):∃L',gS G L L'∧bG {G with lim:=L'} w u y:=by
 unfold DX at h
 split at h
 ·rename_i cs
  simp only[Option.map_eq_some_iff]at h
  obtain⟨ys,h1,rfl⟩:=h
  cases hr with
  |agg us _ hn hr=>
  obtain⟨L',r,e,q⟩:=wA hH (us:=us.toList) hL (by simpa using hn) (fun i a b=>by
   rw[Array.getElem_toList]
   exact hr i (by simpa using a) b) h1
  exact⟨L',r,.agg us _ (by simpa using e) fun i a b=>by
   have:=q i (by simpa using a) b
   rwa [Array.getElem_toList]at this⟩
 ·exact wz hH hL hr h
theorem td{H:Heap}(hH:bB P G w H):∀{xs ys:List AV}{us:List Value}{L:Nat→Nat},gS G G.lim L→us.length=xs.length→(∀i(h1:i<us.length)(h2:i<xs.length),bG G w us[i] xs[i])→vI H xs=some ys→
 ∃L',gS G L L'∧us.length=ys.length∧∀i(h1:i<us.length)(h2:i<ys.length),bG {G with lim:=L'} w us[i] ys[i]
 |[],ys,us,L,hL,hl,hr,h=>by
  simp only[vI,Option.some.injEq]at h
  subst h
  exact⟨L,.refl _ _,hl,fun i h1 h2=>absurd h2 (by simp)⟩
 |x::xs,ys,[],L,hL,hl,hr,h=>by simp at hl
 |x::xs,ys,u::us,L,hL,hl,hr,h=>by
  simp only[vI]at h
  split at h
  ·rename_i y ys' h1 h2
   simp only[Option.some.injEq]at h
   subst h
   obtain⟨L1,r1,q1⟩:=wB hH hL (hr 0 (by simp) (by simp)) h1
   obtain⟨L2,r2,e2,q2⟩:=td hH (hL.trans r1) (by simpa using hl) (fun i a b=>by
    have:=hr (i+1) (by simpa using a) (by simpa using b)
    simpa only[List.getElem_cons_succ]using this) h2
   refine⟨L2,r1.trans r2,by simpa using e2,fun i a b=> ?_⟩
   cases i with
   |zero=>exact q1.OO r2.1
   |succ i=>
    have:=q2 i (by simpa using a) (by simpa using b)
    simpa only[List.getElem_cons_succ]using this
  ·cases h
theorem Ei{H:Heap}(hH:bB P G w H){u:Value}{x y:AV}(hr:bG G w u x)(h:DY H x=some y):∃L',gS G G.lim L'∧bG {G with lim:=L'} w u y:=by
 unfold DY at h
 split at h
 ·rename_i cs
  simp only[Option.map_eq_some_iff]at h
  obtain⟨ys,h1,rfl⟩:=h
  cases hr with
  |tuple us _ hn hr=>
  obtain⟨L',r,e,q⟩:=td hH (us:=us.toList) (.refl G G.lim) (by simpa using hn) (fun i a b=>by
   rw[Array.getElem_toList]
   exact hr i (by simpa using a) b) h1
  exact⟨L',r,.tuple us _ (by simpa using e) fun i a b=>by
   have:=q i (by simpa using a) b
   rwa [Array.getElem_toList]at this⟩
 ·exact wB hH (.refl _ _) hr h
theorem wC{H H1:Heap}(hH:bB P G w H){v x:AV}{e:Ending}(h:gD P G.bare w (.ret v) H1 e w')(hd:dR H1 v=some x):∃u G1,e=.returned u∧Grow G w G1 w'∧bG G1 w' u x:=by
 obtain⟨G2,h1,h2,u,rfl,h4⟩:=h
 unfold dR at hd
 split at hd
 ·rename_i hv
  simp only[Option.some.injEq]at hd
  subst hd
  have r1:=h4.shut
  exact⟨u,_,rfl,oc hH h1 h2.base,r1.data (e8 hv r1) fun _=>Nat.le_refl _⟩
 ·split at hd
  ·rename_i y hf
   split at hd
   ·rename_i hv
    simp only[Option.some.injEq]at hd
    subst hd
    obtain⟨L,hR,hr⟩:=Ei h2 h4 hf
    have hst:Step G.bare w {G2 with lim:=L} w':=by
     refine⟨h1.os,h1.tape,h1.output,h1.size,fun b=>Nat.le_trans (h1.lim b) (hR.1 b),h1.cell,h1.nb,h1.hole,h1.μ,h1.jJ,h1.mc,h1.nt,h1.ext,h1.τ,h1.mw,h1.kH,h1.nl,h1.ln,h1.pF,fun b hb a1 a2 a3=> ?_⟩
     obtain⟨f1,f2⟩:=h1.frame b hb a1 a2 a3
     refine⟨f1,?_⟩
     refine Eq.trans (Classical.byContradiction fun hne=> ?_) f2
     obtain⟨k,hk,e⟩:=hR.2 b hne
     rcases h1.jJ k hk with⟨j,hj,-⟩|h3
     ·exact absurd hj.1 (by simp[aF.bare])
     ·omega
    have hbase:pH {G2 with lim:=L} w':=fun b hb=>by
     refine Eq.trans (Classical.byContradiction fun hne=> ?_) (h2.base b hb)
     obtain⟨k,hk,e⟩:=hR.2 b hne
     have:=h2.uD hk
     omega
    have r1:=hr.shut
    exact⟨u,_,rfl,oc hH hst hbase,r1.data (e8 hv r1) fun _=>Nat.le_refl _⟩
   ·cases hd
  ·cases hd
end Go.Aa
namespace Go.Aa
open Go.RowKit
variable{P:Program}{G G':aF}{w w':World}
theorem B5{vs:Array Value}{az:List AV}(h:fk G w vs az):fk G w vs (az.map bz):=by
 refine⟨by simpa using h.1,fun i h1 h2=> ?_⟩
 have:=(h.2 i h1 (by simpa using h2)).shut
 simpa using this
theorem AS{n:Nat}{a:Act}{T:Env}{os:Array Operand}{xs:List dX}(hT:dN G w n a.tmps T)(h:iU os.toList=some xs):fk G w (os.map a.eval) (xs.map fun x=>bz (ev T x)):=by
 have:=B5 (az:=xs.map (ev T)) ⟨(n9 (a:=a) hT h).1,(n9 (a:=a) hT h).2⟩
 rwa [List.map_map]at this
theorem fQ{ro:Option Nat}{o:Oper}{a:Act}{f:FuncId}{vs:Array Value}{R:Ending→World→Prop}{next:Act→World→Prop}{Q:Exit→Act→World→Prop}(h:k8 P f vs w R)
 (hr:∀u w',R (.returned u) w'→next (a.put o.dst u) w')(hp:∀ch w',R (.panicked ch) w'→Q (.panic ch) a w')(ho:∀w',¬R .outgrown w'):o.uponIn (W ro) 0 P a next Q ((callFunc f vs).run P w):=by
 rcases h with⟨w1,h1,h2,h3⟩|⟨u,w',h1,h2⟩
 ·rw[h1,Oper.uponIn_enter]
  refine⟨fun h=>absurd h (by simp[W,Fence.wide]),(IC (ro:=ro) h2).mono fun e w' he=> ?_⟩
  cases e with
  |returned u=>exact hr _ _ he
  |panicked ch=>exact hp _ _ he
  |outgrown=>exact absurd he (ho w')
 ·rw[h1,Oper.uponIn_value]
  exact hr _ _ h2
theorem dI{r:cZ}{H:Heap}:¬gD P G w r H .outgrown w':=by
 rintro⟨G',_,_,h⟩
 cases r<;>obtain⟨u,h,_⟩:=h<;>cases h
theorem iM{H H':Heap}(hH:bB P G w H){r:cZ}{e:Ending}(h:gD P G.bare w r H' e w'):
 ∃G1,Grow G w G1 w'∧∃G2,G2.lim=G1.lim∧AR G2 w' e r:=by
 obtain⟨G2,h1,h2,h3⟩:=h
 exact⟨_,oc hH h1 h2.base,G2,rfl,h3⟩
theorem jw{call:bL}(hc:cX P call){a:Act}{H:Heap}(hH:bB P G w H){g:FuncId}{az:List AV}{vs:Array Value}(hargs:fk G w vs az){out:Out}(h:eD call g az H=some out){ro:Option Nat}{o:Oper}
 {next:Act→World→Prop}{Q:Exit→Act→World→Prop}
 (hval:∀v H' r w' G',out=.val v H'→Step G w G' w'→bB P G' w' H'→bG G' w' r v→next (a.put o.dst r) w')
 (l9:∀v H' r w' G',out=.cS v H'→Step G w G' w'→bB P G' w' H'→bG G' w' r v→Q (.panic [{v:=r,recovered:=false}]) a w'):o.uponIn (W ro) 0 P a next Q ((callFunc g vs).run P w):=by
 unfold eD at h
 have dh:=fun r H' hr=>hc.fn g az H r H' hr G w vs hH hargs
 split at h
 ·rename_i v H' hr
  simp only[Option.some.injEq]at h
  subst h
  refine fQ (dh _ _ hr) (fun u w' hp=> ?_) (fun ch w' hp=> ?_) (fun w'=>dI)
  ·obtain⟨G1,hs,hh,u',he,bZ⟩:=hp
   cases he
   obtain⟨G2,k1,k2,k3⟩:=fP hs hh bZ.shut
   exact hval _ _ _ _ G2 rfl k1 (by rw[←hH.nb,←hH.nt];exact k2) k3
  ·obtain⟨G1,hs,hh,u',he,bZ⟩:=hp
   cases he
 ·rename_i v H' hr
  simp only[Option.some.injEq]at h
  subst h
  refine fQ (dh _ _ hr) (fun u w' hp=> ?_) (fun ch w' hp=> ?_) (fun w'=>dI)
  ·obtain⟨G1,hs,hh,u',he,bZ⟩:=hp
   cases he
  ·obtain⟨G1,hs,hh,u',he,bZ⟩:=hp
   cases he
   obtain⟨G2,k1,k2,k3⟩:=fP hs hh bZ
   exact l9 _ _ _ _ G2 rfl k1 (by rw[←hH.nb,←hH.nt];exact k2) k3
 ·cases h
theorem yV{call:bL}(hc:cX P call){n:Nat}{a:Act}{T:Env}{H:Heap}(hT:dN G w n a.tmps T)(hH:bB P G w H){f:Operand}{args:Array Operand}{fo:dX}{xs:List dX}
 (hf:dz f=some fo)(hx:iU args.toList=some xs){out:Out}(h:en call (ev T fo) (xs.map fun x=>bz (ev T x)) H=some out){ro:Option Nat}{o:Oper}{argTypes:Array TypeId}
 (ho:o.op=.call {callee:=.value f,args:=args,argTypes:=argTypes}){next:Act→World→Prop}{Q:Exit→Act→World→Prop}
 (hval:∀v H' r w' G',out=.val v H'→Step G w G' w'→bB P G' w' H'→bG G' w' r v→next (a.put o.dst r) w')
 (l9:∀v H' r w' G',out=.cS v H'→Step G w G' w'→bB P G' w' H'→bG G' w' r v→Q (.panic [{v:=r,recovered:=false}]) a w'):o.wpIn (W ro) 0 P a w next Q:=by
 refine⟨fun _ _=>trivial,?_⟩
 rw[Oper.semAt_eq _ _ _ (fun c yW=>by rw[ho]at yW;cases yW)]
 have hex:execOp a.eval o=(do let d←Deferred.ofValue (a.eval f) (args.map a.eval);invoke d.target d.args):=by
  unfold execOp;rw[ho];rfl
 rw[hex]
 have rf:=bD (a:=a) hT hf
 have ra:=AS (a:=a) hT hx
 generalize(xs.map fun x=>bz (ev T x))=az at h ra
 generalize args.map a.eval=vs at ra⊢
 unfold en at h
 split at h
 ·rename_i g caps DP
  rw[DP]at rf
  generalize hu:a.eval f=u at rf
  cases rf with
  |func _ us _ hn hr=>
  have rc:fk G w us caps:=⟨hn,hr⟩
  have yX:=ra.append rc
  have hrun:(do let d←Deferred.ofValue (.func (.func g) #[] us) vs;invoke d.target d.args:Sem Next)=callFunc g (vs++us):=by
   simp only[Deferred.ofValue]
   show callFunc g (#[]++vs++us)=_
   simp
  rw[hrun]
  split at h
  ·rename_i hd
   simp only[Bool.and_eq_true,List.all_eq_true]at hd
   have Ej:∀x∈az++caps,bK x=true:=by
    intro x hx
    rcases List.mem_append.1 hx with hx|hx
    ·exact hd.1 x hx
    ·have:=hd.2 x hx
     cases x<;>first|exact this|simp[bI]at this
   have dh:=fun r H' hr=>hc.fn g (az++caps) Heap.nil r H' hr G.bare w (vs++us) (sY hH) (sZ yX Ej)
   split at h
   ·rename_i v H' hr
    split at h
    ·rename_i x oh
     simp only[Option.some.injEq]at h
     subst h
     refine fQ (dh _ _ hr) (fun u w' hp=> ?_) (fun ch w' hp=> ?_) (fun w'=>dI)
     ·obtain⟨u',G1,he,hg,bZ⟩:=wC (H:=H) hH hp oh
      cases he
      exact hval _ _ _ _ G1 rfl (hg.step hH.base) (hH.grow hg) bZ
     ·obtain⟨u',G1,he,hg,bZ⟩:=wC (H:=H) hH hp oh
      cases he
    ·exact jw hc hH yX h hval l9
   ·rename_i v H' hr
    split at h<;>simp only[Option.some.injEq,reduceCtorEq]at h
    rename_i oh
    subst h
    refine fQ (dh _ _ hr) (fun u w' hp=> ?_) (fun ch w' hp=> ?_) (fun w'=>dI)
    ·obtain⟨G1,hg,G2,hlim,u',he,bZ⟩:=iM (H:=H) hH hp
     cases he
    ·obtain⟨G1,hg,G2,hlim,u',he,bZ⟩:=iM (H:=H) hH hp
     cases he
     exact l9 _ _ _ _ G1 rfl (hg.step hH.base) (hH.grow hg) (bZ.data (e8 oh bZ) fun b=>by rw[hlim];exact Nat.le_refl _)
   ·cases h
  ·exact jw hc hH yX h hval l9
 ·rename_i l DP
  rw[DP]at rf
  generalize hu:a.eval f=u at rf
  cases rf with
  |yield _ hl=>
  have hl':l<H.loops.length:=by rw[←hH.nl];exact hl
  have hrun:(do let d←Deferred.ofValue (.func (.yield (G.ln l)) #[] #[]) vs;invoke d.target d.args:Sem Next)=Instr.yield (G.ln l) vs:=by
   simp only[Deferred.ofValue]
   show Instr.yield (G.ln l) (#[]++vs)=_
   simp
  rw[hrun]
  have dh:=fun r H' hr=>hc.yl l az H r H' hr G w vs hH ra hl'
  split at h
  ·rename_i v H' hr
   simp only[Option.some.injEq]at h
   subst h
   obtain⟨rec,h1,h2,h3⟩:=dh _ _ hr
   rw[run_yield h1 h2,Oper.uponIn_round]
   refine⟨fun h=>absurd h (by simp[W,Fence.wide]),RoundIn.mono (F:=W ro) h3 fun e w' hp=> ?_⟩
   obtain⟨G1,hs,hh,u',he,bZ⟩:=hp
   subst he
   obtain⟨G2,k1,k2,k3⟩:=fP hs hh bZ
   exact hval _ _ _ _ G2 rfl k1 (by rw[←hH.nb,←hH.nt];exact k2) k3
  ·rename_i v H' hr
   simp only[Option.some.injEq]at h
   subst h
   obtain⟨rec,h1,h2,h3⟩:=dh _ _ hr
   rw[run_yield h1 h2,Oper.uponIn_round]
   refine⟨fun h=>absurd h (by simp[W,Fence.wide]),RoundIn.mono (F:=W ro) h3 fun e w' hp=> ?_⟩
   obtain⟨G1,hs,hh,u',he,bZ⟩:=hp
   subst he
   obtain⟨G2,k1,k2,k3⟩:=fP hs hh bZ
   exact l9 _ _ _ _ G2 rfl k1 (by rw[←hH.nb,←hH.nt];exact k2) k3
  ·cases h
 ·cases h
theorem wD{call:bL}(hc:cX P call){n:Nat}{a:Act}{T:Env}{H:Heap}(hT:dN G w n a.tmps T)(hH:bB P G w H){f:Operand}{args:Array Operand}{fo:dX}{xs:List dX}
 (hf:dz f=some fo)(hx:iU args.toList=some xs){out:Out}(h:gv call (ev T fo) (xs.map fun x=>bz (ev T x)) H=some out){ro:Option Nat}{o:Oper}{argTypes:Array TypeId}
 (ho:o.op=.call {callee:=.value f,args:=args,argTypes:=argTypes}){next:Act→World→Prop}{Q:Exit→Act→World→Prop}
 (hval:∀v H' r w' G',out=.val v H'→Step G w G' w'→bB P G' w' H'→bG G' w' r v→next (a.put o.dst r) w')
 (l9:∀v H' r w' G',out=.cS v H'→Step G w G' w'→bB P G' w' H'→bG G' w' r v→Q (.panic [{v:=r,recovered:=false}]) a w'):o.wpIn (W ro) 0 P a w next Q:=by
 refine⟨fun _ _=>trivial,?_⟩
 rw[Oper.semAt_eq _ _ _ (fun c yW=>by rw[ho]at yW;cases yW)]
 have hex:execOp a.eval o=(do let d←Deferred.ofValue (a.eval f) (args.map a.eval);invoke d.target d.args):=by
  unfold execOp;rw[ho];rfl
 rw[hex]
 have rf:=bD (a:=a) hT hf
 have ra:=AS (a:=a) hT hx
 generalize(xs.map fun x=>bz (ev T x))=az at h ra
 generalize args.map a.eval=vs at ra⊢
 unfold gv at h
 split at h
 ·rename_i g caps DP
  rw[DP]at rf
  generalize hu:a.eval f=u at rf
  cases rf with
  |func _ us _ hn hr=>
  have rc:fk G w us caps:=⟨hn,hr⟩
  have yX:=ra.append rc
  have hrun:(do let d←Deferred.ofValue (.func (.func g) #[] us) vs;invoke d.target d.args:Sem Next)=callFunc g (vs++us):=by
   simp only[Deferred.ofValue]
   show callFunc g (#[]++vs++us)=_
   simp
  rw[hrun]
  split at h
  ·rename_i hd
   simp only[Bool.and_eq_true,List.all_eq_true]at hd
   have Ej:∀x∈az++caps,bK x=true:=by
    intro x hx
    rcases List.mem_append.1 hx with hx|hx
    ·exact hd.1 x hx
    ·have:=hd.2 x hx
     cases x<;>first|exact this|simp[bI]at this
   have dh:=fun r H' hr=>hc.fn g (az++caps) Heap.nil r H' hr G.bare w (vs++us) (sY hH) (sZ yX Ej)
   split at h
   ·rename_i v H' hr
    split at h
    ·rename_i oh
     simp only[Option.some.injEq]at h
     subst h
     refine fQ (dh _ _ hr) (fun u w' hp=> ?_) (fun ch w' hp=> ?_) (fun w'=>dI)
     ·obtain⟨G1,hg,G2,hlim,u',he,bZ⟩:=iM (H:=H) hH hp
      cases he
      have r1:=bZ.shut
      exact hval _ _ _ _ G1 rfl (hg.step hH.base) (hH.grow hg) (r1.data (e8 oh r1) fun b=>by rw[hlim];exact Nat.le_refl _)
     ·obtain⟨G1,hg,G2,hlim,u',he,bZ⟩:=iM (H:=H) hH hp
      cases he
    ·exact jw hc hH yX h hval l9
   ·rename_i v H' hr
    split at h<;>simp only[Option.some.injEq,reduceCtorEq]at h
    rename_i oh
    subst h
    refine fQ (dh _ _ hr) (fun u w' hp=> ?_) (fun ch w' hp=> ?_) (fun w'=>dI)
    ·obtain⟨G1,hg,G2,hlim,u',he,bZ⟩:=iM (H:=H) hH hp
     cases he
    ·obtain⟨G1,hg,G2,hlim,u',he,bZ⟩:=iM (H:=H) hH hp
     cases he
     exact l9 _ _ _ _ G1 rfl (hg.step hH.base) (hH.grow hg) (bZ.data (e8 oh bZ) fun b=>by rw[hlim];exact Nat.le_refl _)
   ·cases h
  ·exact jw hc hH yX h hval l9
 ·cases h
theorem qt{call:bL}{op:gy}{T:Env}{H H':Heap}{v:AV}(h:aR call op T H=some (.cS v H')):bX op=.call∨(∃x t u,op=.panic x∧ev T x=.iface t u∧v=.iface t u∧H'=H):=by
 have pure:∀o:Option AV,(match o with|some v=>some (Out.val v H)|none=>none)≠some (.cS v H'):=by
  intro o;cases o<;>simp
 cases op with
 |call f az=>exact .inl rfl
 |c6 f az=>exact .inl rfl
 |eT es x=>simp only[aR]at h;split at h<;>simp at h
 |dZ es b x y=>simp only[aR]at h;split at h<;>simp at h
 |kI es b z x=>simp only[aR]at h;split at h<;>simp at h
 |fE z x=>simp only[aR]at h;split at h<;>simp at h
 |panic x=>
  simp only[aR]at h
  split at h<;>simp only[Option.some.injEq,reduceCtorEq,Out.cS.injEq]at h
  rename_i t u he
  exact .inr ⟨x,t,u,rfl,he,h.1.symm,h.2.symm⟩
 |box x=>simp only[aR]at h;split at h<;>simp at h
 |load g n x=>simp only[aR]at h;split at h<;>simp at h
 |store n x v=>simp only[aR]at h;split at h<;>simp at h
 |append es b x y=>simp only[aR]at h;split at h<;>simp at h
 |_=>
  simp only[aR]at h
  first
   |(simp[cj]at h;done)
   |exact absurd h (pure _)
theorem wE{op:BinOp}{t:TypeId}{x y:dX}{a:gy}(h:Iq P op t x y=some a):bX a=.pure:=by
 unfold Iq at h
 split at h
 ·simp only[Option.some.injEq]at h;subst h;rfl
 ·split at h
  ·split at h<;>simp only[Option.some.injEq,reduceCtorEq]at h<;>subst h<;>rfl
  ·split at h<;>simp only[Option.some.injEq,reduceCtorEq]at h<;>subst h<;>rfl
theorem ID{mu:Bool}{o:Op}{op:gy}(h:gL P mu o=some op)(hc:bX op=.call):∃g args tys f az,o=.call {callee:=.value g,args:=args,argTypes:=tys}∧dz g=some f∧iU args.toList=some az∧op=(if mu=true then .c6 f az else .call f az):=by
 cases o with
 |call c=>
  obtain⟨callee,args,tys⟩:=c
  cases callee with
  |value g=>
   simp only[gL]at h
   split at h<;>simp only[Option.some.injEq,reduceCtorEq]at h
   rename_i f' qu h1 h2
   exact⟨g,args,tys,f',qu,rfl,h1,h2,h.symm⟩
  |invoke r m=>simp[gL]at h
  |builtin b=>
   exfalso
   cases b<;>simp only[gL,reduceCtorEq]at h<;>(repeat' split at h)<;>first
    |(simp at h;done)
    |(simp only[Option.some.injEq]at h;subst h;cases mu<;>simp[bX]at hc;done)
    |(simp only[Option.map_eq_some_iff]at h;obtain⟨z,-,rfl⟩:=h;simp[bX]at hc)
    |(simp only[Option.some.injEq]at h;subst h;simp[bX]at hc)
 |binOp op t x y yt=>
  exfalso
  simp only[gL]at h
  (repeat' split at h)<;>first
    |(simp at h;done)
    |(have:=wE h;rw[this]at hc;cases hc)
    |(simp only[Option.some.injEq]at h;subst h;cases hc)
 |buildSlice t n ps=>
  exfalso
  simp only[gL]at h
  (repeat' split at h)<;>first
    |(simp at h;done)
    |(simp only[Option.some.injEq]at h;subst h;cases mu<;>cases hc)
 |makeFunc fn first caps=>
  exfalso
  cases fn<;>simp only[gL,reduceCtorEq]at h
  split at h<;>first
   |(simp at h;done)
   |(simp only[Option.map_eq_some_iff]at h;obtain⟨z,-,rfl⟩:=h;cases hc)
 |_=>
  exfalso
  simp only[gL]at h
  first
   |(simp at h;done)
   |(simp only[Option.map_eq_some_iff]at h;obtain⟨z,-,rfl⟩:=h;cases hc;done)
   |((repeat' split at h)<;>first
      |(simp at h;done)
      |(simp only[Option.some.injEq]at h;subst h;cases hc;done)
      |(simp only[Option.map_eq_some_iff]at h;obtain⟨z,-,rfl⟩:=h;cases hc;done)
      |(simp only[Option.some.injEq]at h;subst h;split at hc<;>cases hc))
theorem B6{mu:Bool}{o:Op}{x:dX}(h:gL P mu o=some (.panic x)):∃y,o=.panic y∧dz y=some x:=by
 cases o with
 |panic y=>
  simp only[gL,Option.map_eq_some_iff,gy.panic.injEq]at h
  obtain⟨z,hz,rfl⟩:=h
  exact⟨y,rfl,hz⟩
 |call c=>
  exfalso
  obtain⟨callee,args,tys⟩:=c
  cases callee with
  |value g=>
   simp only[gL]at h
   split at h<;>first
    |(simp at h;done)
    |(simp only[Option.some.injEq]at h;cases mu<;>simp at h)
  |invoke r m=>simp[gL]at h
  |builtin b=>
   cases b<;>simp only[gL,reduceCtorEq]at h<;>(repeat' split at h)<;>simp at h
 |binOp op t x y yt=>
  exfalso
  simp only[gL]at h
  (repeat' split at h)<;>first
    |(simp at h;done)
    |(have:=wE h;simp[bX]at this)
 |makeFunc fn first caps=>
  exfalso
  cases fn<;>simp only[gL,reduceCtorEq]at h
  split at h<;>simp at h
 |_=>
  exfalso
  simp only[gL]at h
  first
   |(simp at h;done)
   |((repeat' split at h)<;>simp at h)
theorem B7{mu:Bool}{o:Op}{op:gy}(h:gL P mu o=some op)(c:Call):o≠.defer c:=by
 rintro rfl;simp[gL]at h
theorem yY{call:bL}(hc:cX P call){n:Nat}{a:Act}{T:Env}{H:Heap}(hT:dN G w n a.tmps T)(hH:bB P G w H){o:Oper}{op:gy}{mu:Bool}(Se:gL P mu o.op=some op){out:Out}
 (h:aR call op T H=some out){ro:Option Nat}{next:Act→World→Prop}{Q:Exit→Act→World→Prop}
 (hval:∀v H' r w' G',out=.val v H'→Step G w G' w'→bB P G' w' H'→bG G' w' r v→next (a.put o.dst r) w')
 (l9:∀v H' r w' G',out=.cS v H'→Step G w G' w'→bB P G' w' H'→bG G' w' r v→Q (.panic [{v:=r,recovered:=false}]) a w'):o.wpIn (W ro) 0 P a w next Q:=by
 by_cases wo:bX op=.call
 ·obtain⟨g,args,tys,f,az,ho,h1,h2,rfl⟩:=ID Se wo
  cases mu with
  |true=>exact wD hc hT hH h1 h2 h ho hval l9
  |false=>exact yV hc hT hH h1 h2 h ho hval l9
 ·refine⟨fun _ _=>trivial,?_⟩
  rw[Oper.semAt_eq _ _ _ (B7 Se)]
  cases out with
  |val v H'=>
   obtain⟨nx,r,w',G',h1,h2,h3,h4,h5⟩:=Ef hT hH Se wo h
   rw[h1]
   rcases h2 with rfl|⟨rfl,rfl⟩
   ·rw[Oper.uponIn_value];exact hval _ _ _ _ _ rfl h3 h4 h5
   ·rw[Oper.uponIn_skip];exact hval _ _ _ _ _ rfl h3 h4 h5
  |cS v H'=>
   rcases qt h with hcl|⟨x,t,u,rfl,he,rfl,rfl⟩
   ·exact absurd hcl wo
   ·have ho:=B6 Se
    obtain⟨y,hy,hz⟩:=ho
    have rx:=bD (a:=a) hT hz
    rw[he]at rx
    generalize hu:a.eval y=u' at rx
    cases rx with
    |iface _ uv _ hr=>
    have:(execOp a.eval o).run P w=.halt (.panic (.iface t uv)) w:=by
     unfold execOp;rw[hy];simp[hu,Instr.panic,goPanic,Sem.run_bind]
    rw[this,Oper.uponIn_panic]
    exact l9 _ _ _ _ G rfl (.refl _ _) hH (.iface _ _ _ hr)
end Go.Aa
namespace Go.Aa
open Go.RowKit
variable{P:Program}{G G':aF}{w w':World}
variable{mu:Bool}
theorem j7{nt:Nat}{ops:Array Oper}:∀{l:List Oper}{acc:List (List Nat)}{az:List aK},kY P mu nt ops acc l=some az→
 az.length=l.length∧∀i(h1:i<l.length)(h2:i<az.length),sK P mu nt ops (acc++(az.take i).map (·.deps)) l[i]=some az[i]
 |[],acc,az,h=>by
  simp only[kY,Option.some.injEq]at h
  subst h
  exact⟨rfl,fun i h1=>absurd h1 (by simp)⟩
 |o::r,acc,az,h=>by
  simp only[kY]at h
  split at h
  ·cases h
  ·rename_i a ha
   split at h
   ·rename_i qu hr
    simp only[Option.some.injEq]at h
    subst h
    obtain⟨i1,i2⟩:=j7 hr
    refine⟨by simp[i1],fun i h1 h2=> ?_⟩
    cases i with
    |zero=>simpa using ha
    |succ i=>
     have:=i2 i (by simpa using h1) (by simpa using h2)
     simpa using this
   ·cases h
theorem om{nt:Nat}{ops:Array Oper}{acc:List (List Nat)}{o:Oper}{ao:aK}(h:sK P mu nt ops acc o=some ao):
 o.dst.all (fun d=>decide (d<nt))=true∧gL P (mu&& !KG ops o) o.op=some ao.op∧ao.dst=o.dst∧ao.deps=qb acc o.after.toList∧
  ((o.guard=none∧ao.guard=none)∨∃j want g,o.guard=some (j,want)∧(ops[j]?).bind (·.dst)=some g∧ao.guard=some (g,want)):=by
 unfold sK at h
 split at h
 ·cases h
 ·rename_i hd
  split at h
  ·cases h
  ·rename_i op hop
   split at h
   ·rename_i hg
    simp only[Option.some.injEq]at h
    subst h
    exact⟨by simpa using hd,hop,rfl,rfl,.inl ⟨hg,rfl⟩⟩
   ·rename_i j want hg
    split at h
    ·rename_i g hgd
     simp only[Option.some.injEq]at h
     subst h
     exact⟨by simpa using hd,hop,rfl,rfl,.inr ⟨j,want,g,hg,hgd,rfl⟩⟩
    ·cases h
theorem nj{nt:Nat}{ops:Array Oper}{acc:List (List Nat)}{o:Oper}{ao:aK}{n:Nat}{a:Act}{T:Env}{b:Bool}(hc:sK P mu nt ops acc o=some ao)(hT:dN G w n a.tmps T)(h:cJ ao T=some b):
 Region.wanted o (yielded ops a.tmps)=b:=by
 obtain⟨_,_,_,_,hg⟩:=om hc
 unfold cJ at h
 rcases hg with⟨h1,h2⟩|⟨j,want,g,h1,h2,h3⟩
 ·rw[h2]at h
  simp only[Option.some.injEq]at h
  simp[Region.wanted,h1,h]
 ·rw[h3]at h
  simp only at h
  split at h<;>simp only[Option.some.injEq,reduceCtorEq]at h
  rotate_left
  ·rename_i hb
   have hr:=hT.get g
   rw[hb]at hr
   have hv:∀b,a.tmps[g]?≠some (.bool b):=by
    intro b On
    rw[show a.tmps.getD g undef=.bool b by simp[Array.getD_eq_getD_getElem?,On]]at hr
    cases hr
   simp only[Region.wanted,h1,yielded,h2,Option.bind_some]
   rw[←h]
   cases On:a.tmps[g]? with
   |none=>rfl
   |some y=>
    cases y with
    |bool b=>exact absurd On (hv b)
    |_=>rfl
  rename_i b0 hb
  have hr:=hT.get g
  rw[hb]at hr
  have hv:a.tmps[g]?=some (.bool b0):=by
   generalize hx:a.tmps.getD g undef=x at hr
   cases hr
   simp only[Array.getD_eq_getD_getElem?]at hx
   cases On:a.tmps[g]? with
   |none=>rw[On]at hx;simp[undef]at hx
   |some y=>rw[On]at hx;simpa using hx
  simp only[Region.wanted,h1,yielded,h2,Option.bind_some,hv]
  rw[←h]
  cases b0<;>cases want<;>rfl
def exec(step:gy→Env→Heap→Option Out)(o:aK)(T:Env)(H:Heap):Option Out:=
 match cJ o T with
 |some true=>step o.op T H
 |some false=>some (.val (.tuple []) H)
 |none=>none
def jx(P:Program)(G:aF)(w:World)(n:Nat)(df:List Deferred)(out:kX):Exit→Act→World→Prop
 |.normal,a',w'=>∃G' T' H',out=.env T' H'∧Step G w G' w'∧dN G' w' n a'.tmps T'∧bB P G' w' H'∧a'.defers=df
 |.panic ch,a',w'=>∃r v H' G',ch=[{v:=r,recovered:=false}]∧out=.cS v H'∧Step G w G' w'∧bB P G' w' H'∧bG G' w' r v∧a'.defers=df
 |_,_,_=>False
theorem jx.before{n:Nat}{df:List Deferred}{out:kX}{e:Exit}{a':Act}{w1 w2:World}{G1:aF}(h:jx P G1 w1 n df out e a' w2)(hst:Step G w G1 w1):jx P G w n df out e a' w2:=by
 cases e with
 |normal=>obtain⟨G',T',H',h1,h2,h3⟩:=h;exact⟨G',T',H',h1,hst.trans h2,h3⟩
 |panic ch=>obtain⟨r,v,H',G',h0,h1,h2,h3⟩:=h;exact⟨r,v,H',G',h0,h1,hst.trans h2,h3⟩
 |_=>exact h.elim
theorem put_defers(a:Act)(d:Option Tmp)(v:Value):(a.put d v).defers=a.defers:=by cases d<;>rfl
theorem ld{call:bL}(hc:cX P call){nt:Nat}{ops:Array Oper}{acc:List (List Nat)}{i:Nat}{o:Oper}{ao:aK}(hi:ops[i]?=some o)(r6:sK P mu nt ops acc o=some ao)
 {a:Act}{T:Env}{H:Heap}(hT:dN G w nt a.tmps T)(hH:bB P G w H){out:Out}(h:exec (aR call) ao T H=some out){ro:Option Nat}{Q:Exit→Act→World→Prop}{K:Act→World→Prop}
 (hval:∀v H' a' w' G',out=.val v H'→Step G w G' w'→bB P G' w' H'→dN G' w' nt a'.tmps (aU T ao.dst v)→a'.defers=a.defers→K a' w')
 (l9:∀v H' r w' G',out=.cS v H'→Step G w G' w'→bB P G' w' H'→bG G' w' r v→Q (.panic [{v:=r,recovered:=false}]) a w'):wpOpIn (W ro) 0 P ops Q i K a w:=by
 obtain⟨hd,hop,S4,_,_⟩:=om r6
 have hset:∀v r w' G',Step G w G' w'→bG G' w' r v→dN G' w' nt (a.put o.dst r).tmps (aU T ao.dst v):=fun v r w' G' hst hr=>by
  rw[S4]
  exact(hT.step hst).aU (df:=a.defers) hd hr
 unfold exec at h
 simp only[wpOpIn,hi]
 split at h
 ·rename_i hw
  rw[if_pos (nj r6 hT hw)]
  exact yY hc hT hH hop h (fun v H' r w' G' e hst hh hr=>hval v H' _ w' G' e hst hh (hset _ _ _ _ hst hr) (put_defers _ _ _)) l9
 ·rename_i hw
  simp only[Option.some.injEq]at h
  subst h
  rw[if_neg (by rw[nj r6 hT hw];simp)]
  exact⟨fun _ _=>trivial,hval _ _ _ w G rfl (.refl _ _) hH (hset _ _ _ _ (.refl _ _) (.tuple #[] [] rfl (fun i h1=>absurd h1 (by simp)))) (put_defers _ _ _)⟩
 ·cases h
theorem wF{call:bL}{o:aK}{r:List aK}{T:Env}{H:Heap}{out:kX}(h:dx call (o::r) T H=some out):
 ∃o1,exec (aR call) o T H=some o1∧(match o1 with|.val v H'=>dx call r (aU T o.dst v) H'|.cS v H'=>some (.cS v H'))=some out:=by
 simp only[dx]at h
 unfold exec
 cases hw:cJ o T with
 |none=>rw[hw]at h;cases h
 |some b=>
  rw[hw]at h
  cases b with
  |false=>exact⟨_,rfl,h⟩
  |true=>
   simp only at h⊢
   cases hs:aR call o.op T H with
   |none=>rw[hs]at h;cases h
   |some x=>rw[hs]at h;exact⟨x,rfl,by cases x<;>exact h⟩
theorem lf{call:bL}:∀(l:List aK)(T:Env)(H:Heap),dx call (l.map aK.bare) T H=dx call l T H
 |[],T,H=>rfl
 |o::l,T,H=>by
  simp only[List.map_cons,dx]
  have hw:cJ o.bare T=cJ o T:=rfl
  rw[hw]
  cases cJ o T with
  |none=>rfl
  |some b=>
   cases b with
   |false=>exact lf l _ _
   |true=>
    simp only
    have ho:aR call o.bare.op T H=aR call o.op T H:=rfl
    rw[ho]
    cases aR call o.op T H with
    |none=>rfl
    |some x=>
     cases x with
     |val v H'=>exact lf l _ _
     |cS v H'=>rfl
theorem Ek{call:bL}(hc:cX P call){nt:Nat}{ops:Array Oper}{az:List aK}(r6:kY P mu nt ops [] ops.toList=some az){ro:Option Nat}{Q:Exit→Act→World→Prop}:
 ∀(m k:Nat),k+m=ops.size→∀{G:aF}{w:World}{a:Act}{T:Env}{H:Heap}{out:kX},dN G w nt a.tmps T→bB P G w H→dx call (az.drop k) T H=some out→
  (∀e a' w',jx P G w nt a.defers out e a' w'→Q e a' w')→wpOpsIn (W ro) 0 P ops Q (List.range' k m) a w:=by
 obtain⟨hlen,n7⟩:=j7 r6
 intro m
 induction m with
 |zero=>
  intro k hk G w a T H out hT hH h hQ
  have:az.drop k=[]:=List.drop_eq_nil_of_le (by simp at hlen;omega)
  rw[this]at h
  simp only[dx,Option.some.injEq]at h
  subst h
  exact hQ _ _ _ ⟨G,T,H,rfl,.refl _ _,hT,hH,rfl⟩
 |succ m ih=>
  intro k hk G w a T H out hT hH h hQ
  have hk':k<az.length:=by simp at hlen;omega
  have hks:k<ops.size:=by omega
  rw[List.drop_eq_getElem_cons hk']at h
  rw[List.range'_succ,wpOpsIn_cons]
  have Oo:=n7 k (by simpa using hks) hk'
  obtain⟨o1,h1,h2⟩:=wF h
  refine ld hc (o:=ops[k]) (by simp[hks]) (by simpa using Oo) hT hH h1 (fun v H' a' w' G' e hst hh ht hdf=> ?_) (fun v H' r w' G' e hst hh hr=> ?_)
  ·subst e
   exact ih (k+1) (by omega) ht hh h2 fun e a2 w2 hq=>hQ _ _ _ (by rw[hdf]at hq;exact hq.before hst)
  ·subst e
   simp only[Option.some.injEq]at h2
   subst h2
   exact hQ _ _ _ ⟨r,v,H',G',rfl,rfl,hst,hh,hr,rfl⟩
end Go.Aa
namespace Go.Aa
open Go.RowKit
variable{P:Program}{G G':aF}{w w':World}
variable{mu:Bool}
def LY:DN→Bool|.read|.alloc|.store|.call=>true|_=>false
def LZ:DN→Bool|.app|.call=>true|_=>false
def qv:DN→Bool|.alloc|.store=>true|_=>false
def r7:DN→Bool|.app=>true|_=>false
theorem lg(c d:DN)(h:ur c d=true):
 (qv c=true→LY d=false)∧(r7 c=true→LZ d=false)∧(qv d=true→LY c=false∨(c=.read∧d=.alloc))∧(r7 d=true→LZ c=false)∧c≠.cS∧d≠.cS∧
   (c=.call→qv d=false∧r7 d=false)∧(d=.call→qv c=false∧r7 c=false):=by
 revert h;cases c<;>cases d<;>simp[ur,qv,r7,LY,LZ]
theorem AT{c:DN}(h:qv c=true):LY c=true:=by revert h;cases c<;>simp[qv,LY]
theorem AU{c:DN}(h:r7 c=true):LZ c=true:=by revert h;cases c<;>simp[r7,LZ]
def Out.heap:Out→Heap
 |.val _ H=>H
 |.cS _ H=>H
def Out.put:Out→Heap→Out
 |.val v _,H=>.val v H
 |.cS v _,H=>.cS v H
def mix(c:DN)(B:List (List AV))(K:List Nat)(H:Heap):Heap:=⟨if qv c=true then B else H.boxes,if r7 c=true then K else H.toks,H.loops⟩
theorem qw{c:DN}{H:Heap}{B K}(hb:qv c=true→B=H.boxes)(ht:r7 c=true→K=H.toks):mix c B K H=H:=by
 unfold mix
 have e1:(if qv c=true then B else H.boxes)=H.boxes:=by split<;>simp_all
 have e2:(if r7 c=true then K else H.toks)=H.toks:=by split<;>simp_all
 rw[e1,e2]
theorem wG{g:Bool}{n:Nat}{H H2:Heap}{v:AV}(h:H2.boxes=H.boxes):ak g n H2 v=ak g n H v:=by
 cases v<;>simp[ak,h]
theorem nr{es:Nat}{H H2 H':Heap}{l:List AV}{v:AV}(hb:H2.boxes=H.boxes)(h:jr es H l=some (v,H')):H'=⟨H'.boxes,H.toks,H.loops⟩∧jr es H2 l=some (v,⟨H'.boxes,H2.toks,H2.loops⟩)∧∃B,H'.boxes=H.boxes++B:=by
 unfold jr at h⊢
 cases l with
 |nil=>
  simp only[Option.some.injEq,Prod.mk.injEq]at h⊢
  obtain⟨rfl,rfl⟩:=h
  exact⟨rfl,⟨rfl,by rw[←hb]⟩,[],by simp⟩
 |cons x l=>
  simp only at h⊢
  split at h
  ·rename_i hc
   simp only[Option.some.injEq,Prod.mk.injEq]at h
   obtain⟨rfl,rfl⟩:=h
   rw[if_pos hc,hb]
   exact⟨rfl,rfl,_,rfl⟩
  ·cases h
theorem qx{es b:Nat}{z:List AV}{H H2 H':Heap}{x v:AV}(hb:H2.boxes=H.boxes)(h:p6 es b z H x=some (v,H')):H'=⟨H'.boxes,H.toks,H.loops⟩∧p6 es b z H2 x=some (v,⟨H'.boxes,H2.toks,H2.loops⟩)∧∃B,H'.boxes=H.boxes++B:=by
 unfold p6 at h⊢
 split at h
 ·split at h
  ·rename_i hc
   simp only[if_pos hc]
   split at h
   ·rename_i h0
    simp only[Option.some.injEq,Prod.mk.injEq]at h
    obtain⟨rfl,rfl⟩:=h
    exact⟨rfl,by simp[h0,←hb],[],by simp⟩
   ·rename_i h0
    simp only[Option.some.injEq,Prod.mk.injEq]at h
    obtain⟨rfl,rfl⟩:=h
    exact⟨rfl,by simp[h0,hb],_,rfl⟩
  ·cases h
 ·cases h
theorem r8{es b:Nat}{H H2 H':Heap}{x y v:AV}(hb:H2.boxes=H.boxes)(h:ef es b H x y=some (v,H')):H'=⟨H'.boxes,H.toks,H.loops⟩∧ef es b H2 x y=some (v,⟨H'.boxes,H2.toks,H2.loops⟩):=by
 unfold ef at h⊢
 split at h
 ·rename_i k l k' m
  cases m with
  |nil=>
   simp only[Option.some.injEq,Prod.mk.injEq]at h⊢
   obtain⟨rfl,rfl⟩:=h
   exact⟨rfl,rfl,by rw[←hb]⟩
  |cons m0 m'=>
   simp only at h⊢
   split at h
   ·rename_i hc
    simp only[Option.some.injEq,Prod.mk.injEq]at h
    obtain⟨rfl,rfl⟩:=h
    rw[if_pos hc,hb]
    exact⟨rfl,rfl⟩
   ·cases h
 ·rename_i k off n es' k' m
  cases m with
  |nil=>
   simp only[Option.some.injEq,Prod.mk.injEq]at h⊢
   obtain⟨rfl,rfl⟩:=h
   exact⟨rfl,rfl,by rw[←hb]⟩
  |cons m0 m'=>
   simp only[hb]at h⊢
   split at h
   ·split at h
    ·rename_i hc
     simp only[Option.some.injEq,Prod.mk.injEq]at h
     obtain⟨rfl,rfl⟩:=h
     rw[if_pos hc]
     exact⟨rfl,rfl⟩
    ·cases h
   ·cases h
 ·cases h
theorem wH{z:List AV}{H H2 H':Heap}{x:AV}(hb:H2.boxes=H.boxes)(h:jE z H x=some H'):H'=⟨H'.boxes,H.toks,H.loops⟩∧jE z H2 x=some ⟨H'.boxes,H2.toks,H2.loops⟩:=by
 unfold jE at h⊢
 split at h
 ·simp only[Option.some.injEq]at h⊢
  subst h
  exact⟨rfl,by rw[←hb]⟩
 ·simp only[hb]at h⊢
  split at h
  ·split at h
   ·rename_i hc
    simp only[Option.some.injEq]at h
    subst h
    rw[if_pos hc]
    exact⟨rfl,rfl⟩
   ·cases h
  ·cases h
 ·cases h
theorem wI{call:bL}{op:gy}{T:Env}{H H2:Heap}{out:Out}(h:aM call op T H=some out)(hb:LY (bX op)=true→H2.boxes=H.boxes)(ht:LZ (bX op)=true→H2.toks=H.toks)(hlp:H2.loops=H.loops):
 ∃B K,out.heap=mix (bX op) B K H∧aM call op T H2=some (out.put (mix (bX op) B K H2)):=by
 have pure:∀o:Option AV,(match o with|some v=>some (Out.val v H)|none=>none)=some out→
  out.heap=H∧(match o with|some v=>some (Out.val v H2)|none=>none)=some (out.put H2):=by
  intro o ho
  cases o with
  |none=>cases ho
  |some v=>simp only[Option.some.injEq]at ho;subst ho;exact⟨rfl,rfl⟩
 cases op with
 |box x=>
  simp only[aM,aR]at h⊢
  have hb:=hb rfl
  split at h<;>simp only[Option.some.injEq,reduceCtorEq]at h
  rename_i h1 h2
  subst h
  refine⟨H.boxes++[(ev T x).cells],[],rfl,?_⟩
  simp[bX,mix,qv,r7,Out.put,uf,hb]
 |load g n x=>
  simp only[aM,aR]at h⊢
  rw[wG (hb rfl)]
  cases hl:ak g n H (ev T x)with
  |none=>rw[hl]at h;cases h
  |some v=>
   rw[hl]at h
   simp only[Option.some.injEq]at h
   subst h
   exact⟨[],[],rfl,rfl⟩
 |store n x v=>
  simp only[aM,aR]at h⊢
  have hb:=hb rfl
  unfold aW at h⊢
  cases hx:ev T x with
  |ptr k off=>
   rw[hx]at h
   simp only at h⊢
   rw[hb]
   cases hk:H.boxes[k]? with
   |none=>rw[hk]at h;cases h
   |some cs=>
    rw[hk]at h
    simp only at h⊢
    by_cases hc:off+n≤cs.length∧cF n (ev T v)=true∧(ev T v).cells.all mA=true∧0<n
    ·rw[if_pos hc]at h⊢
     simp only[Option.some.injEq]at h
     subst h
     exact⟨H.boxes.set k (dU cs off (ev T v).cells),[],rfl,by simp[bX,mix,qv,r7,Out.put]⟩
    ·rw[if_neg hc]at h;cases h
  |_=>rw[hx]at h;cases h
 |append es b x y=>
  simp only[aM,aR]at h⊢
  have ht:=ht rfl
  unfold bw at h⊢
  cases hx:ev T x with
  |sl k l=>
   cases hy:ev T y with
   |sl k2 m=>
    rw[hx,hy]at h
    simp only at h⊢
    cases m with
    |nil=>
     simp only[Option.some.injEq]at h⊢
     subst h
     refine⟨[],H.toks,rfl,?_⟩
     simp[bX,mix,qv,r7,Out.put,←ht]
    |cons m0 m'=>
     simp only at h⊢
     by_cases hc:(l.length+(m0::m').length)*b≤140737488355328∧cE es l=true∧cE es (m0::m')=true∧dH (m0::m')=true
     ·rw[if_pos hc]at h⊢
      cases k with
      |sh=>cases h
      |nil=>cases h
      |full=>
       simp only[Option.some.injEq]at h
       subst h
       refine⟨[],H.toks++[l.length+(m0::m').length],rfl,?_⟩
       simp[bX,mix,qv,r7,Out.put,ht]
      |own t=>
       simp only[ht]at h⊢
       by_cases qy:H.toks[t]?=some l.length
       ·rw[if_pos qy]at h⊢
        simp only[Option.some.injEq]at h
        subst h
        refine⟨[],H.toks.set t (l.length+(m0::m').length),rfl,?_⟩
        simp[bX,mix,qv,r7,Out.put]
       ·rw[if_neg qy]at h;cases h
     ·rw[if_neg hc]at h;cases h
   |_=>rw[hx,hy]at h;cases h
  |_=>rw[hx]at h;cases h
 |panic x=>
  simp only[aM,aR]at h⊢
  split at h<;>simp only[Option.some.injEq,reduceCtorEq]at h
  subst h
  exact⟨[],[],rfl,rfl⟩
 |eT es xs=>
  simp only[aM,aR]at h⊢
  cases hr:jr es H (xs.map fun x=>cC (ev T x))with
  |none=>rw[hr]at h;cases h
  |some r=>
   rw[hr]at h
   simp only[Option.some.injEq]at h
   subst h
   obtain⟨e1,e2,-⟩:=nr (H2:=H2) (hb rfl) (v:=r.1) (H':=r.2) hr
   exact⟨r.2.boxes,[],e1,by rw[e2];rfl⟩
 |kI es b z x=>
  simp only[aM,aR]at h⊢
  cases hr:p6 es b z H (ev T x)with
  |none=>rw[hr]at h;cases h
  |some r=>
   rw[hr]at h
   simp only[Option.some.injEq]at h
   subst h
   obtain⟨e1,e2,-⟩:=qx (H2:=H2) (hb rfl) (v:=r.1) (H':=r.2) hr
   exact⟨r.2.boxes,[],e1,by rw[e2];rfl⟩
 |dZ es b x y=>
  simp only[aM,aR]at h⊢
  cases hr:ef es b H (ev T x) (ev T y)with
  |none=>rw[hr]at h;cases h
  |some r=>
   rw[hr]at h
   simp only[Option.some.injEq]at h
   subst h
   obtain⟨e1,e2⟩:=r8 (H2:=H2) (hb rfl) (v:=r.1) (H':=r.2) hr
   exact⟨r.2.boxes,[],e1,by rw[e2];rfl⟩
 |fE z x=>
  simp only[aM,aR]at h⊢
  cases hr:jE z H (ev T x)with
  |none=>rw[hr]at h;cases h
  |some r=>
   rw[hr]at h
   simp only[Option.some.injEq]at h
   subst h
   obtain⟨e1,e2⟩:=wH (H2:=H2) (hb rfl) hr
   exact⟨r.boxes,[],e1,by rw[e2];rfl⟩
 |c6 f az=>
  refine⟨[],[],?_⟩
  simp only[aM,ia]at h⊢
  split at h
  ·split at h
   ·rename_i hd
    rw[if_pos hd]
    split at h
    ·rename_i kL
     split at h<;>simp only[Option.some.injEq,reduceCtorEq]at h
     rename_i oO
     subst h
     rw[if_pos oO]
     exact⟨rfl,rfl⟩
    ·rename_i kL
     split at h<;>simp only[Option.some.injEq,reduceCtorEq]at h
     rename_i oO
     subst h
     rw[if_pos oO]
     exact⟨rfl,rfl⟩
    ·cases h
   ·rename_i hd
    obtain⟨v,h1,rfl⟩:=fO h
    have e2:H2=H:=by
     have a1:=hb rfl
     have a2:=ht rfl
     cases H2;cases H;simp only at a1 a2 hlp;subst a1;subst a2;subst hlp;rfl
    subst e2
    refine⟨rfl,?_⟩
    rw[if_neg hd,h1,jL]
    rfl
  ·cases h
 |call f az=>
  refine⟨[],[],?_⟩
  simp only[aM,js]at h⊢
  split at h
  ·split at h
   ·rename_i hd
    rw[if_pos hd]
    split at h
    ·rename_i kL
     split at h<;>simp only[Option.some.injEq,reduceCtorEq]at h
     rename_i oO
     subst h
     exact⟨rfl,rfl⟩
    ·rename_i kL
     split at h<;>simp only[Option.some.injEq,reduceCtorEq]at h
     rename_i oO
     subst h
     rw[if_pos oO]
     exact⟨rfl,rfl⟩
    ·cases h
   ·rename_i hd
    obtain⟨v,h1,rfl⟩:=fO h
    have e2:H2=H:=by
     have a1:=hb rfl
     have a2:=ht rfl
     cases H2;cases H;simp only at a1 a2 hlp;subst a1;subst a2;subst hlp;rfl
    subst e2
    refine⟨rfl,?_⟩
    rw[if_neg hd,h1,jL]
    rfl
  ·cases h
 |aE x=>obtain⟨h1,h2⟩:=pure (some (ev T x)) h;exact⟨[],[],h1,h2⟩
 |iD t x=>obtain⟨h1,h2⟩:=pure (some (.iface t (ev T x))) h;exact⟨[],[],h1,h2⟩
 |cV f caps=>obtain⟨h1,h2⟩:=pure (some (.func f (caps.map (ev T)))) h;exact⟨[],[],h1,h2⟩
 |_=>obtain⟨h1,h2⟩:=pure _ h;exact⟨[],[],h1,h2⟩
theorem iX{call:bL}{op:gy}{T:Env}{H:Heap}{out:Out}(h:aM call op T H=some out):aR call op T H=some out:=by
 cases op with
 |call f az=>
  simp only[aM,js]at h
  simp only[aR,en]
  cases hf:ev T f with
  |func g caps=>
   rw[hf]at h
   simp only at h⊢
   split at h
   ·rename_i hd
    rw[if_pos hd]
    split at h
    ·split at h
     ·exact h
     ·cases h
    ·exact h
    ·cases h
   ·rename_i hd
    rw[if_neg hd]
    obtain⟨v,h1,rfl⟩:=fO h
    exact h1
  |_=>rw[hf]at h;cases h
 |c6 f az=>
  simp only[aM,ia]at h
  simp only[aR,gv]
  cases hf:ev T f with
  |func g caps=>
   rw[hf]at h
   simp only at h⊢
   split at h
   ·rename_i hd
    rw[if_pos hd]
    split at h
    ·split at h
     ·rename_i oO;rw[if_pos oO];exact h
     ·cases h
    ·exact h
    ·cases h
   ·rename_i hd
    rw[if_neg hd]
    obtain⟨v,h1,rfl⟩:=fO h
    exact h1
  |_=>rw[hf]at h;cases h
 |_=>simpa only[aM]using h
theorem B8{call:bL}{o:aK}{T:Env}{H:Heap}{out:Out}(h:exec (aM call) o T H=some out):exec (aR call) o T H=some out:=by
 unfold exec at h⊢
 cases hw:cJ o T with
 |none=>rw[hw]at h;cases h
 |some b=>
  rw[hw]at h
  cases b with
  |true=>exact iX h
  |false=>exact h
theorem gE{call:bL}{o:aK}{T:Env}{H H2:Heap}{out:Out}(h:exec (aM call) o T H=some out)(hb:LY (bX o.op)=true→H2.boxes=H.boxes)(ht:LZ (bX o.op)=true→H2.toks=H.toks)(hlp:H2.loops=H.loops):
 ∃B K,out.heap=mix (bX o.op) B K H∧exec (aM call) o T H2=some (out.put (mix (bX o.op) B K H2)):=by
 unfold exec at h⊢
 cases hw:cJ o T with
 |none=>rw[hw]at h;cases h
 |some b=>
  rw[hw]at h
  cases b with
  |true=>exact wI h hb ht hlp
  |false=>
   simp only[Option.some.injEq]at h
   subst h
   refine⟨H.boxes,H.toks,(qw (fun _=>rfl) (fun _=>rfl)).symm,?_⟩
   rw[qw (fun hw=>(hb (AT hw)).symm) (fun hw=>(ht (AU hw)).symm)]
   rfl
theorem qz{call:bL}{o:aK}{T:Env}{H H':Heap}{v:AV}(h:exec (aM call) o T H=some (.cS v H')):(bX o.op=.call∨bX o.op=.cS)∧H'=H:=by
 have wo:bX o.op=.call∨bX o.op=.cS:=by
  unfold exec at h
  split at h
  ·cases hop:o.op with
   |call f az=>exact .inl rfl
   |c6 f az=>exact .inl rfl
   |panic x=>exact .inr rfl
   |_=>
    rw[hop]at h
    simp only[aM]at h
    rcases qt h with h|⟨x,_,_,hx,_⟩
    ·exact .inl h
    ·cases hx
  ·cases h
  ·cases h
 obtain⟨B,K,h1,_⟩:=gE (H2:=H) h (fun _=>rfl) (fun _=>rfl) rfl
 refine⟨wo,?_⟩
 rcases wo with hc|hc<;>rw[hc]at h1<;>exact h1
theorem iY{call:bL}{o:aK}{T:Env}{H H':Heap}{v:AV}(h:exec (aM call) o T H=some (.val v H'))(h1:qv (bX o.op)=false)(h2:r7 (bX o.op)=false):H'=H:=by
 obtain⟨B,K,e,_⟩:=gE (H2:=H) h (fun _=>rfl) (fun _=>rfl) rfl
 have e:H'=mix (bX o.op) B K H:=e
 rw[e,qw (by simp[h1]) (by simp[h2])]
theorem bH{T T':Env}{x:dX}(h:∀n∈ey x,T n=T' n):ev T x=ev T' x:=by
 cases x with
 |t n=>exact h n (by simp[ey])
 |c v=>rfl
theorem uF{T T':Env}{xs:List dX}(h:∀n∈xs.flatMap ey,T n=T' n):xs.map (ev T)=xs.map (ev T'):=
 List.map_congr_left fun x hx=>bH fun n hn=>h n (List.mem_flatMap.2 ⟨x,hx,hn⟩)
theorem j8{T T':Env}{x:Option dX}(h:∀n∈uu x,T n=T' n):x.map (ev T)=x.map (ev T'):=by
 cases x with
 |none=>rfl
 |some x=>simp only[Option.map_some];rw[bH h]
theorem wJ{call:bL}{op:gy}{T T':Env}{H:Heap}(h:∀n∈dP op,T n=T' n):aM call op T H=aM call op T' H:=by
 cases op with
 |aE x=>simp only[aM,aR,cj];rw[bH (T':=T') h]
 |pick c a b=>
  simp only[aM,aR,cj]
  rw[bH (T':=T') (x:=c) fun n hn=>h n (by simp[dP,hn]),bH (T':=T') (x:=a) fun n hn=>h n (by simp[dP,hn]),bH (T':=T') (x:=b) fun n hn=>h n (by simp[dP,hn])]
 |box x=>simp only[aM,aR];rw[bH (T':=T') h]
 |build z ps=>
  simp only[aM,aR,cj]
  have:(ps.map fun p=>(p.1,p.2.1,ev T p.2.2))=ps.map fun p=>(p.1,p.2.1,ev T' p.2.2):=
   List.map_congr_left fun p hp=>by rw[bH (T':=T') fun n hn=>h n (List.mem_flatMap.2 ⟨p,hp,hn⟩)]
  rw[this]
 |bO es xs=>
  simp only[aM,aR,cj]
  have:(xs.map fun x=>cC (ev T x))=xs.map fun x=>cC (ev T' x):=
   List.map_congr_left fun p hp=>by rw[bH (T':=T') fun n hn=>h n (List.mem_flatMap.2 ⟨p,hp,hn⟩)]
  rw[this]
 |eT es xs=>
  simp only[aM,aR]
  have:(xs.map fun x=>cC (ev T x))=xs.map fun x=>cC (ev T' x):=
   List.map_congr_left fun p hp=>by rw[bH (T':=T') fun n hn=>h n (List.mem_flatMap.2 ⟨p,hp,hn⟩)]
  rw[this]
 |kI es b z x=>simp only[aM,aR];rw[bH (T':=T') h]
 |fE z x=>simp only[aM,aR];rw[bH (T':=T') h]
 |dZ es b x y=>
  simp only[aM,aR]
  rw[bH (T':=T') (x:=x) fun n hn=>h n (by simp[dP,hn]),bH (T':=T') (x:=y) fun n hn=>h n (by simp[dP,hn])]
 |c6 f xs=>
  simp only[aM]
  have:(xs.map fun x=>bz (ev T x))=xs.map fun x=>bz (ev T' x):=
   List.map_congr_left fun p hp=>by rw[bH (T':=T') fun n hn=>h n (by simp only[dP,List.mem_append];exact .inr (List.mem_flatMap.2 ⟨p,hp,hn⟩))]
  rw[this,bH (T':=T') (x:=f) fun n hn=>h n (by simp[dP,hn])]
 |load g n x=>simp only[aM,aR];rw[bH (T':=T') h]
 |store n x v=>
  simp only[aM,aR]
  rw[bH (T':=T') (x:=x) fun n hn=>h n (by simp[dP,hn]),bH (T':=T') (x:=v) fun n hn=>h n (by simp[dP,hn])]
 |mz x=>simp only[aM,aR,cj];rw[bH (T':=T') h]
 |bin b x y=>
  simp only[aM,aR,cj]
  rw[bH (T':=T') (x:=x) fun n hn=>h n (by simp[dP,hn]),bH (T':=T') (x:=y) fun n hn=>h n (by simp[dP,hn])]
 |rY b ks x y=>
  simp only[aM,aR,cj]
  rw[bH (T':=T') (x:=x) fun n hn=>h n (by simp[dP,hn]),bH (T':=T') (x:=y) fun n hn=>h n (by simp[dP,hn])]
 |Io b x y=>
  simp only[aM,aR,cj]
  rw[bH (T':=T') (x:=x) fun n hn=>h n (by simp[dP,hn]),bH (T':=T') (x:=y) fun n hn=>h n (by simp[dP,hn])]
 |un b x=>simp only[aM,aR,cj];rw[bH (T':=T') h]
 |mh b k x=>simp only[aM,aR,cj];rw[bH (T':=T') h]
 |conv b x=>simp only[aM,aR,cj];rw[bH (T':=T') h]
 |iD b x=>simp only[aM,aR,cj];rw[bH (T':=T') h]
 |cV f xs=>simp only[aM,aR,cj];rw[uF (T':=T') h]
 |slice es x lo hi mx=>
  simp only[aM,aR,cj]
  rw[bH (T':=T') (x:=x) fun n hn=>h n (by simp[dP,hn]),j8 (T':=T') (x:=lo) fun n hn=>h n (by simp[dP,hn]),
   j8 (T':=T') (x:=hi) fun n hn=>h n (by simp[dP,hn]),j8 (T':=T') (x:=mx) fun n hn=>h n (by simp[dP,hn])]
 |bn o n x=>simp only[aM,aR,cj];rw[bH (T':=T') h]
 |yD g o n x=>simp only[aM,aR,cj];rw[bH (T':=T') h]
 |idx b x y=>
  simp only[aM,aR,cj]
  rw[bH (T':=T') (x:=x) fun n hn=>h n (by simp[dP,hn]),bH (T':=T') (x:=y) fun n hn=>h n (by simp[dP,hn])]
 |idxs x y=>
  simp only[aM,aR,cj]
  rw[bH (T':=T') (x:=x) fun n hn=>h n (by simp[dP,hn]),bH (T':=T') (x:=y) fun n hn=>h n (by simp[dP,hn])]
 |extract x i=>simp only[aM,aR,cj];rw[bH (T':=T') h]
 |call f xs=>
  simp only[aM]
  have:(xs.map fun x=>bz (ev T x))=xs.map fun x=>bz (ev T' x):=
   List.map_congr_left fun p hp=>by rw[bH (T':=T') fun n hn=>h n (by simp only[dP,List.mem_append];exact .inr (List.mem_flatMap.2 ⟨p,hp,hn⟩))]
  rw[this,bH (T':=T') (x:=f) fun n hn=>h n (by simp[dP,hn])]
 |len s x=>simp only[aM,aR,cj];rw[bH (T':=T') h]
 |append es b x y=>
  simp only[aM,aR]
  rw[bH (T':=T') (x:=x) fun n hn=>h n (by simp[dP,hn]),bH (T':=T') (x:=y) fun n hn=>h n (by simp[dP,hn])]
 |mm b x y=>
  simp only[aM,aR,cj]
  rw[bH (T':=T') (x:=x) fun n hn=>h n (by simp[dP,hn]),bH (T':=T') (x:=y) fun n hn=>h n (by simp[dP,hn])]
 |panic x=>simp only[aM,aR];rw[bH (T':=T') h]
theorem iZ{call:bL}{o:aK}{T T':Env}{H:Heap}(h:∀n∈o.use,T n=T' n):exec (aM call) o T H=exec (aM call) o T' H:=by
 unfold exec
 have hw:cJ o T=cJ o T':=by
  unfold cJ
  cases hg:o.guard with
  |none=>rfl
  |some g=>simp only;rw[h g.1 (by simp[aK.use,hg])]
 rw[hw,wJ (T':=T') fun n hn=>h n (by simp[aK.use,hn])]
theorem lq{T:Env}{d:Option Nat}{v:AV}{us:List Nat}(h:∀x,d=some x→x∉us):∀n∈us,aU T d v n=T n:=by
 intro n hn
 cases d with
 |none=>rfl
 |some d=>
  have hne:n≠d:=fun e=>h d rfl (e▸hn)
  simp[aU,hO,hne]
theorem tf{T:Env}{d e:Option Nat}{v u:AV}(h:∀x,d=some x→e≠some x):aU (aU T d v) e u=aU (aU T e u) d v:=by
 cases d with
 |none=>rfl
 |some d=>
  cases e with
  |none=>rfl
  |some e=>
   have hne:e≠d:=fun he=>h d rfl (by rw[he])
   funext n
   simp only[aU,hO]
   by_cases h1:n=e
   ·subst h1;simp[hne]
   ·simp[h1]
theorem apart_spec{a b:aK}(h:gA a b=true):ur (bX a.op) (bX b.op)=true∧(∀d,a.dst=some d→d∉b.use)∧(∀d,a.dst=some d→b.dst≠some d)∧(∀d,b.dst=some d→d∉a.use):=by
 simp only[gA,Bool.and_eq_true]at h
 obtain⟨⟨h1,h2⟩,h3⟩:=h
 refine⟨h1,fun d hd=> ?_,fun d hd=> ?_,fun d hd=> ?_⟩
 ·rw[hd]at h2;simp at h2;exact h2.1
 ·rw[hd]at h2;simp at h2;exact h2.2
 ·rw[hd]at h3;simpa using h3
noncomputable def ja(call:bL):List (aK×Nat)→Option (Nat×AV)→Env→Heap→Option kX
 |[],none,T,H=>some (.env T H)
 |[],some (_,v),_,H=>some (.cS v H)
 |o::r,none,T,H=>
  match exec (aM call) o.1 T H with
  |some (.val v H')=>ja call r none (aU T o.1.dst v) H'
  |some (.cS v H')=>ja call r (some (o.2,v)) T H'
  |none=>none
 |o::r,some (p,x),T,H=>
  if o.1.deps.contains p then ja call r (some (p,x)) T H else
  match exec (aM call) o.1 T H with
  |some (.val v H')=>ja call r (some (p,x)) (aU T o.1.dst v) H'
  |_=>none
theorem iN{call:bL}:∀(ops:List aK)(i:Nat)(p:Option (Nat×AV))(T:Env)(H:Heap),dJ call i ops p T H=ja call (ops.zipIdx i) p T H
 |[],i,none,T,H=>rfl
 |[],i,some _,T,H=>rfl
 |o::r,i,none,T,H=>by
  rw[List.zipIdx_cons,dJ,ja]
  unfold exec
  cases cJ o T with
  |none=>rfl
  |some b=>
   cases b with
   |true=>
    simp only
    cases aM call o.op T H with
    |none=>rfl
    |some x=>cases x<;>exact iN r _ _ _ _
   |false=>exact iN r _ _ _ _
 |o::r,i,some (p,x),T,H=>by
  rw[List.zipIdx_cons,dJ,ja]
  simp only
  split
  ·exact iN r _ _ _ _
  ·unfold exec
   cases cJ o T with
   |none=>rfl
   |some b=>
    cases b with
    |true=>
     simp only
     cases aM call o.op T H with
     |none=>rfl
     |some x=>
      cases x with
      |val v H'=>exact iN r _ _ _ _
      |cS v H'=>rfl
    |false=>exact iN r _ _ _ _
def Calm(p:Nat)(y:aK×Nat):Prop:=y.1.deps.contains p=true∨(qv (bX y.1.op)=false∧r7 (bX y.1.op)=false)
theorem lz{call:bL}{p:Nat}{x:AV}:∀{R:List (aK×Nat)}{T:Env}{H:Heap}{out:kX},(∀y∈R,Calm p y)→ja call R (some (p,x)) T H=some out→out=.cS x H
 |[],T,H,out,_,h=>by simp only[ja,Option.some.injEq]at h;exact h.symm
 |o::r,T,H,out,hc,h=>by
  simp only[ja]at h
  split at h
  ·exact lz (fun y hy=>hc y (List.mem_cons_of_mem _ hy)) h
  ·rename_i hd
   split at h
   ·rename_i v H' he
    have hq:=(hc o (by simp)).resolve_left hd
    have:=iY he hq.1 hq.2
    subst this
    exact lz (fun y hy=>hc y (List.mem_cons_of_mem _ hy)) h
   ·cases h
theorem jG{call:bL}{i:aK×Nat}{p:Nat}{x:AV}(S5:i.1.deps.contains p=false)(hqi:qv (bX i.1.op)=false∧r7 (bX i.1.op)=false):
 ∀{A B:List (aK×Nat)}{T:Env}{H:Heap}{out:kX},(∀a∈A,gA a.1 i.1=true∧Calm p a)→ja call (A++i::B) (some (p,x)) T H=some out→
  ∃v,exec (aM call) i.1 T H=some (.val v H)∧ja call (A++B) (some (p,x)) (aU T i.1.dst v) H=some out
 |[],B,T,H,out,_,h=>by
  simp only[List.nil_append,ja,S5,Bool.false_eq_true,if_false]at h
  split at h
  ·rename_i v H' he
   have:=iY he hqi.1 hqi.2
   subst this
   exact⟨v,he,h⟩
  ·cases h
 |a::A,B,T,H,out,hA,h=>by
  obtain⟨hap,hca⟩:=hA a (by simp)
  have VS:∀a∈A,gA a.1 i.1=true∧Calm p a:=fun b hb=>hA b (List.mem_cons_of_mem _ hb)
  obtain⟨_,s1,s2,s3⟩:=apart_spec hap
  simp only[List.cons_append,ja]at h⊢
  by_cases hd:a.1.deps.contains p=true
  ·rw[if_pos hd]at h
   obtain⟨v,h1,h2⟩:=jG S5 hqi VS h
   exact⟨v,h1,by rw[if_pos hd];exact h2⟩
  ·rw[if_neg hd]at h
   split at h
   ·rename_i va H' he
    have hq:=hca.resolve_left hd
    have:=iY he hq.1 hq.2
    subst this
    obtain⟨v,h1,h2⟩:=jG S5 hqi VS h
    rw[iZ (T':=T) (lq s1)]at h1
    refine⟨v,h1,?_⟩
    rw[if_neg hd,iZ (T':=T) (lq s3),he]
    simp only
    rw[←tf (T:=T) (d:=a.1.dst) (e:=i.1.dst) s2]
    exact h2
   ·cases h
theorem oY{call:bL}{o:aK}{T:Env}{H H':Heap}{v:AV}(h:exec (aM call) o T H=some (.val v H'))(hc:bX o.op=.alloc):∃B,H'.boxes=H.boxes++B:=by
 unfold exec at h
 split at h
 ·cases hop:o.op with
  |box x=>
   rw[hop]at h
   simp only[aM,aR]at h
   split at h<;>simp only[Option.some.injEq,reduceCtorEq,Out.val.injEq]at h
   exact⟨_,by rw[←h.2];rfl⟩
  |eT es xs=>
   rw[hop]at h
   simp only[aM,aR]at h
   split at h<;>simp only[Option.some.injEq,reduceCtorEq,Out.val.injEq]at h
   rename_i r hr
   obtain⟨-,-,B,e⟩:=nr (H2:=H) rfl (v:=r.1) (H':=r.2) hr
   exact⟨B,by rw[←h.2];exact e⟩
  |kI es b z x=>
   rw[hop]at h
   simp only[aM,aR]at h
   split at h<;>simp only[Option.some.injEq,reduceCtorEq,Out.val.injEq]at h
   rename_i r hr
   obtain⟨-,-,B,e⟩:=qx (H2:=H) rfl (v:=r.1) (H':=r.2) hr
   exact⟨B,by rw[←h.2];exact e⟩
  |_=>rw[hop]at hc;cases hc
 ·simp only[Option.some.injEq,Out.val.injEq]at h
  exact⟨[],by rw[←h.2];simp⟩
 ·cases h
theorem wK{g:Bool}{n:Nat}{H H2:Heap}{B:List (List AV)}{x v:AV}(h:ak g n H x=some v)(hB:H2.boxes=H.boxes++B):ak g n H2 x=some v:=by
 cases x with
 |ptr k off=>
  simp only[ak]at h⊢
  cases hk:H.boxes[k]? with
  |none=>rw[hk]at h;cases h
  |some cs=>
   have:H2.boxes[k]?=some cs:=by
    rw[hB,List.getElem?_append_left (List.getElem?_eq_some_iff.1 hk).1];exact hk
   rw[hk]at h
   rw[this];exact h
 |ref cs=>exact h
 |_=>cases h
theorem yZ{call:bL}{o:aK}{T:Env}{H H1 H2:Heap}{B:List (List AV)}{v:AV}(h:exec (aM call) o T H=some (.val v H1))(hc:bX o.op=.read)(hB:H2.boxes=H.boxes++B):exec (aM call) o T H2=some (.val v H2):=by
 unfold exec at h⊢
 split at h
 ·cases hop:o.op with
  |load g n x=>
   rw[hop]at h
   simp only[aM,aR]at h⊢
   split at h
   ·rename_i u hl
    simp only[Option.some.injEq,Out.val.injEq]at h
    rw[wK hl hB,h.1]
   ·cases h
  |_=>rw[hop]at hc;cases hc
 ·simp only[Option.some.injEq,Out.val.injEq]at h
  rw[h.1]
 ·cases h
theorem front{call:bL}{i:aK×Nat}:∀{A B:List (aK×Nat)}{T:Env}{H:Heap}{out:kX},
 (A++i::B).Pairwise (fun x y=>y.1.deps.contains x.2=true∨gA x.1 y.1=true)→(∀a∈A,i.1.deps.contains a.2=false)→ja call (A++i::B) none T H=some out→
   ∃oi,exec (aM call) i.1 T H=some oi∧(match oi with
    |.val v Hi=>ja call (A++B) none (aU T i.1.dst v) Hi=some out
    |.cS v Hi=>out=.cS v Hi)
 |[],B,T,H,out,hp,_,h=>by
  simp only[List.nil_append,ja]at h
  split at h
  ·rename_i v H' he
   exact⟨_,he,h⟩
  ·rename_i v H' he
   obtain⟨hc,rfl⟩:=qz he
   refine⟨_,he,?_⟩
   refine lz (fun y hy=> ?_) h
   simp only[List.nil_append,List.pairwise_cons]at hp
   rcases hp.1 y hy with hd|hap
   ·exact .inl hd
   ·have:=lg _ _ (apart_spec hap).1
    rcases hc with hc|hc
    ·exact .inr ⟨(this.2.2.2.2.2.2.1 hc).1,(this.2.2.2.2.2.2.1 hc).2⟩
    ·exact absurd hc this.2.2.2.2.1
  ·cases h
 |a::A,B,T,H,out,hp,hn,h=>by
  simp only[List.cons_append,List.pairwise_cons]at hp
  have hap:gA a.1 i.1=true:=(hp.1 i (by simp)).resolve_left (by rw[hn a (by simp)];simp)
  obtain⟨s0,s1,s2,s3⟩:=apart_spec hap
  have cs:=lg _ _ s0
  simp only[List.cons_append,ja]at h
  split at h
  ·rename_i va Ha he
   obtain⟨oi,h1,h2⟩:=front hp.2 (fun b hb=>hn b (List.mem_cons_of_mem _ hb)) h
   rw[iZ (T':=T) (lq s1)]at h1
   obtain⟨Ba,Ka,ea,fa⟩:=gE (H2:=H) he (fun _=>rfl) (fun _=>rfl) rfl
   have ea:Ha=mix (bX a.1.op) Ba Ka H:=ea
   obtain⟨Bi,Ki,ei,fi⟩:=gE (H2:=H) h1 (fun hr=>by
    rw[ea];unfold mix;simp only
    rw[if_neg (fun hw=>by rw[cs.1 hw]at hr;cases hr)]) (fun hr=>by
    rw[ea];unfold mix;simp only
    rw[if_neg (fun hw=>by rw[cs.2.1 hw]at hr;cases hr)]) (by rw[ea];rfl)
   refine⟨_,fi,?_⟩
   cases oi with
   |cS v H1=>
    obtain⟨hc,e1⟩:=qz h1
    have dh:bX i.1.op=.call:=hc.resolve_right cs.2.2.2.2.2.1
    have q:=cs.2.2.2.2.2.2.2 dh
    have:Ha=H:=iY he q.1 q.2
    simp only at h2
    simp only[Out.put]
    rw[h2,e1,this]
    congr 1
    rw[dh]
    rfl
   |val v VT=>
    simp only[Out.put]at h2⊢
    have OP:VT=mix (bX i.1.op) Bi Ki Ha:=ei
    have hsw:∃OQ OR,(Out.val va Ha).heap=mix (bX a.1.op) OQ OR H∧exec (aM call) a.1 T (mix (bX i.1.op) Bi Ki H)=some ((Out.val va Ha).put (mix (bX a.1.op) OQ OR (mix (bX i.1.op) Bi Ki H))):=by
     by_cases hsp:bX a.1.op=.read∧bX i.1.op=.alloc
     ·have hq:Ha=H:=iY he (by rw[hsp.1];rfl) (by rw[hsp.1];rfl)
      obtain⟨B',S6⟩:=oY h1 hsp.2
      have S7:(mix (bX i.1.op) Bi Ki H).boxes=H.boxes++B':=by
       rw[←hq,←S6,OP]
      have:=yZ he hsp.1 S7
      refine⟨[],[],?_,?_⟩
      ·rw[hq,hsp.1];rfl
      ·rw[this]
       simp only[Out.put]
       rw[hsp.1];rfl
     ·exact gE (H2:=mix (bX i.1.op) Bi Ki H) he (fun hr=>by
       unfold mix;simp only
       rw[if_neg (fun hw=>by
        rcases cs.2.2.1 hw with h|h
        ·rw[h]at hr;cases hr
        ·exact hsp h)]) (fun hr=>by
       unfold mix;simp only
       rw[if_neg (fun hw=>by rw[cs.2.2.2.1 hw]at hr;cases hr)]) rfl
    obtain⟨OQ,OR,ea',Xr⟩:=hsw
    simp only[List.cons_append,ja]
    rw[iZ (T':=T) (lq s3),Xr]
    simp only[Out.put]
    rw[←tf (T:=T) (d:=a.1.dst) (e:=i.1.dst) s2]
    have hheap:mix (bX a.1.op) OQ OR (mix (bX i.1.op) Bi Ki H)=VT:=by
     have ea':Ha=mix (bX a.1.op) OQ OR H:=ea'
     rw[OP,ea']
     unfold mix
     simp only[Heap.mk.injEq,and_true]
     constructor
     ·by_cases hw:qv (bX a.1.op)=true
      ·have:qv (bX i.1.op)=false:=by
        cases hh:qv (bX i.1.op)with
        |false=>rfl
        |true=>have:=cs.1 hw;rw[AT hh]at this;cases this
       simp[hw,this]
      ·simp[hw]
     ·by_cases hw:r7 (bX a.1.op)=true
      ·have:r7 (bX i.1.op)=false:=by
        cases hh:r7 (bX i.1.op)with
        |false=>rfl
        |true=>have:=cs.2.1 hw;rw[AU hh]at this;cases this
       simp[hw,this]
      ·simp[hw]
    rw[hheap]
    exact h2
  ·rename_i va Ha he
   obtain⟨hc,rfl⟩:=qz he
   have dh:bX a.1.op=.call:=hc.resolve_right cs.2.2.2.2.1
   have qi:=cs.2.2.2.2.2.2.1 dh
   have OS:∀b∈A,gA b.1 i.1=true∧Calm a.2 b:=fun b hb=>by
    refine⟨?_,?_⟩
    ·have:=List.pairwise_append.1 hp.2
     exact(this.2.2 b hb i (by simp)).resolve_left (by rw[hn b (List.mem_cons_of_mem _ hb)];simp)
    ·rcases hp.1 b (by simp[hb])with hd|hab
     ·exact .inl hd
     ·have cs':=lg _ _ (apart_spec hab).1
      exact .inr ⟨(cs'.2.2.2.2.2.2.1 dh).1,(cs'.2.2.2.2.2.2.1 dh).2⟩
   obtain⟨v,h1,h2⟩:=jG (hn a (by simp)) ⟨qi.1,qi.2⟩ OS h
   refine⟨_,h1,?_⟩
   simp only[List.cons_append,ja]
   rw[iZ (T':=T) (lq s3),he]
   exact h2
  ·cases h
end Go.Aa
namespace Go.Aa
open Go.RowKit
variable{P:Program}{G G':aF}{w w':World}
def aF.settle(G:aF)(k:Nat):aF:={G with nb:=G.nb-1,μ:=fun j=>if j=k then G.μ (G.nb-1)else G.μ j,mc:=fun j=>if j=k then G.mc (G.nb-1)else G.mc j,hole:=fun j=>if j=k then false else G.hole j}
def mI(G:aF)(k j:Nat):Nat:=if j=k then G.nb-1 else j
theorem iO{k j:Nat}(sg:G.on (G.nb-1))(h:(G.settle k).on j):G.on (mI G k j):=by
 obtain⟨h1,h2⟩:=h
 simp only[aF.settle]at h1 h2
 unfold mI
 by_cases e:j=k
 ·rw[if_pos e];exact sg
 ·rw[if_neg e]at h2⊢;exact⟨by omega,h2⟩
theorem gF{k j:Nat}:(G.settle k).μ j=G.μ (mI G k j):=by
 simp only[aF.settle,mI];split<;>rfl
theorem B9{k j:Nat}:(G.settle k).mc j=G.mc (mI G k j):=by
 simp only[aF.settle,mI];split<;>rfl
theorem oZ{k j:Nat}(hk:G.hole k=true)(h:G.on j)(hj:j<G.nb-1):(G.settle k).on j∧(G.settle k).μ j=G.μ j∧(G.settle k).mc j=G.mc j:=by
 have e:j≠k:=by rintro rfl;rw[h.2]at hk;cases hk
 refine⟨⟨hj,?_⟩,?_,?_⟩
 ·simp only[aF.settle,if_neg e];exact h.2
 ·simp only[aF.settle,if_neg e]
 ·simp only[aF.settle,if_neg e]
theorem bG.settle{k:Nat}{v:Value}{x:AV}{nt nl:Nat}(h:bG G w v x)(hk:G.hole k=true)(hf:Fits (G.nb-1) nt nl x):bG (G.settle k) w v x:=by
 induction h with
 |undef v=>exact .undef v
 |bool b=>exact .bool b
 |int k n=>exact .int k n
 |bQ b=>exact .bQ b
 |nan b h=>exact .nan b h
 |str s=>exact .str s
 |gZ a c k hc ht=>exact .gZ a c k hc ht
 |sl a c k l es us DL hc hcm hs ji fA yC hlim hcell bZ hfull hown ih=>
  exact .sl a c k l es us DL hc hcm hs ji fA yC hlim hcell (fun i hi j hj=>ih i hi j hj (.data _ (yC _ (List.getElem_mem hi) _ (List.getElem_mem hj)))) hfull hown
 |agg us cs hn h ih=>
  refine .agg us cs hn fun i h1 h2=>ih i h1 h2 ?_
  cases hf with
  |data _ h=>cases h with|agg _ h=>exact .data _ (h _ (List.getElem_mem h2))
  |agg _ h=>exact h _ (List.getElem_mem h2)
 |tuple us cs hn h ih=>
  refine .tuple us cs hn fun i h1 h2=>ih i h1 h2 ?_
  cases hf with
  |data _ h=>cases h with|tuple _ h=>exact .data _ (h _ (List.getElem_mem h2))
  |tuple _ h=>exact h _ (List.getElem_mem h2)
 |ptr j off hj=>
  cases hf with
  |data _ h=>cases h
  |ptr _ _ h=>
   obtain⟨o,e1,-⟩:=oZ hk hj h
   rw[←e1]
   exact .ptr j off o
 |ref a cs us hs yC hlim hcell bZ ih=>exact .ref a cs us hs yC hlim hcell fun j hj=>ih j hj (.data _ (yC _ (List.getElem_mem hj)))
 |dO=>exact .dO
 |func f us cs hn h ih=>
  refine .func f us cs hn fun i h1 h2=>ih i h1 h2 ?_
  cases hf with
  |data _ h=>cases h with|func _ _ h=>exact .data _ (h _ (List.getElem_mem h2))
  |func _ _ h=>exact h _ (List.getElem_mem h2)
 |nilFunc=>exact .nilFunc
 |iface t v x h ih=>
  refine .iface t v x (ih ?_)
  cases hf with
  |data _ h=>cases h with|iface _ _ h=>exact .data _ h
  |iface _ _ h=>exact h
 |nilIface=>exact .nilIface
 |cY j off n c es hj hc hcm fA hcap=>
  cases hf with
  |data _ h=>cases h
  |cY _ _ _ _ h=>
   obtain⟨o,e1,e2⟩:=oZ hk hj h
   rw[←e1]
   exact .cY j off n c es o hc hcm fA (by rw[e2];exact hcap)
 |yield l hl=>exact .yield l hl
theorem k5.settle{k:Nat}{r:jk}{rec:Loop}(h:k5 P G w r rec)(hk:G.hole k=true)(hn:r.nb≤G.nb-1):k5 P (G.settle k) w r rec:=by
 obtain⟨h1,h2,h3,h5,⟨f1,f2,f3,f4⟩,mu,nt,h4,h6⟩:=h
 exact⟨h1,h2,h3,h5,⟨hn,f2,f3,f4⟩,mu,nt,⟨h4.size,fun i=>(h4.get i).settle hk ((f4 i).mono hn (Nat.le_refl _) (Nat.le_refl _))⟩,h6⟩
theorem bB.settle{k:Nat}{H:Heap}{cs:List AV}(hH:bB P G w {H with boxes:=H.boxes++[cs]})(hk:G.hole k=true)(hkl:H.boxes[k]?=some cs)(sg:G.hole H.boxes.length=false)
 (hfit:∀j(hj:j<H.boxes.length),(j=k∨G.hole j=false)→∀x∈H.boxes[j],∀v,bG G w v x→∃nt nl,Fits H.boxes.length nt nl x)(hl:∀r∈H.loops,r.nb≤H.boxes.length):bB P (G.settle k) w H:=by
 have Iw:G.nb=H.boxes.length+1:=by rw[hH.nb];simp
 have Ca:G.nb-1=H.boxes.length:=by omega
 have El:G.on (G.nb-1):=by rw[Ca];exact⟨by omega,sg⟩
 obtain⟨Xs,hkc⟩:=List.getElem?_eq_some_iff.1 hkl
 have iy:∀j,j<H.boxes.length→c8 H j→c8 {H with boxes:=H.boxes++[cs]} (mI G k j):=fun j hj h=>by
  unfold c8 mI at*
  by_cases e:j=k
  ·subst e
   rw[if_pos rfl,Ca,List.getElem?_append_right (Nat.le_refl _),Nat.sub_self]
   rw[hkl]at h
   exact h
  ·rw[if_neg e,List.getElem?_append_left hj];exact h
 have hinj:∀i j,mI G k i=mI G k j→i<H.boxes.length→j<H.boxes.length→i=j:=fun i j h hi hj=>by
  unfold mI at h
  by_cases e1:i=k<;>by_cases e2:j=k
  ·omega
  ·rw[if_pos e1,if_neg e2]at h;omega
  ·rw[if_neg e1,if_pos e2]at h;omega
  ·rw[if_neg e1,if_neg e2]at h;exact h
 have hlt:∀j,(G.settle k).on j→j<H.boxes.length:=fun j h=>by have:=h.1;simp only[aF.settle]at this;omega
 have bZ:∀(j:Nat)(hj:j<H.boxes.length)(hq:j=k∨G.hole j=false)(i:Nat)(hi:i<(H.boxes[j]).length)(v:Value),bG G w v (H.boxes[j])[i]→bG (G.settle k) w v (H.boxes[j])[i]:=fun j hj hq i hi v h=>by
  obtain⟨nt,nl,hf⟩:=hfit j hj hq _ (List.getElem_mem hi) v h
  exact h.settle hk (by rw[Ca];exact hf)
 refine⟨hH.base,Ca,hH.nt,hH.nl,fun j hj hh=> ?_,fun i j hi hj li lj he=> ?_,fun j hj lj=> ?_,hH.tok,hH.gR,fun j t hj ht=> ?_,fun l KH=> ?_,hH.kQ,hH.j5.BV (fun g hg=>⟨fun j hj=> ?_,hg.2.1,hg.2.2⟩) (fun _ _ _ _ _ h=>h)⟩
 ·rw[gF,B9]
  by_cases e:j=k
  ·subst e
   obtain⟨us,el,h1,h2,h3⟩:=hH.box H.boxes.length (by simp) sg
   have es:mI G j j=H.boxes.length:=by unfold mI;rw[if_pos rfl,Ca]
   have ec:(H.boxes++[cs])[H.boxes.length]'(by simp)=cs:=by simp
   simp only[ec]at h2 h3
   rw[es]
   refine⟨us,el,h1,by rw[hkc];exact h2,fun i i1 i2=> ?_⟩
   refine bZ j hj (.inl rfl) i i2 _ ?_
   have:=h3 i i1 (by rw[←hkc];exact i2)
   simpa only[hkc]using this
  ·have es:mI G k j=j:=by unfold mI;rw[if_neg e]
   have BX:G.hole j=false:=by simp only[aF.settle,if_neg e]at hh;exact hh
   obtain⟨us,el,h1,h2,h3⟩:=hH.box j (by simp;omega) BX
   have ec:(H.boxes++[cs])[j]'(by simp;omega)=H.boxes[j]:=List.getElem_append_left hj
   simp only[ec]at h2 h3
   rw[es]
   exact⟨us,el,h1,h2,fun i i1 i2=>bZ j hj (.inr BX) i i2 _ (h3 i i1 i2)⟩
 ·rw[gF,gF]at he
  exact hinj i j (hH.fI _ _ (iO El hi) (iO El hj) (iy i (hlt i hi) li) (iy j (hlt j hj) lj) he) (hlt i hi) (hlt j hj)
 ·rw[gF]
  exact hH.gw _ (iO El hj) (iy j (hlt j hj) lj)
 ·rw[gF]
  exact hH.jF _ t (iO El hj) ht
 ·obtain⟨rec,a1,a2⟩:=hH.loop l KH
  exact⟨rec,a1,a2.settle hk (by rw[Ca];exact hl _ (List.getElem_mem KH))⟩
 ·rw[gF]
  exact hg.1 _ (iO El hj)
theorem Step.settle{G0:aF}{w0:World}{k:Nat}(h:Step G0 w0 G w)(h0:G0.nb≤k)(hk:k<G.nb-1)(sg:G.on (G.nb-1)):Step G0 w0 (G.settle k) w:=by
 refine⟨h.os,h.tape,h.output,h.size,h.lim,h.cell,by show G0.nb≤G.nb-1;omega,fun j hj=> ?_,fun j hj=> ?_,fun j hj=> ?_,fun j hj=> ?_,h.nt,h.ext,h.τ,h.mw,h.kH,h.nl,h.ln,h.pF,h.frame⟩
 ·simp only[aF.settle]
  rw[if_neg (by omega)];exact h.hole j hj
 ·have:=hj.1
  simp only[aF.settle]
  rw[if_neg (by omega)];exact h.μ j hj
 ·rw[gF]
  exact h.jJ _ (iO sg hj)
 ·have:=hj.1
  simp only[aF.settle]
  rw[if_neg (by omega)];exact h.mc j hj
def aF.room(G:aF)(n:Nat):aF:={G with nb:=G.nb+n,hole:=fun j=>if j<G.nb then G.hole j else true}
theorem gM{n j:Nat}:(G.room n).on j↔G.on j:=by
 unfold aF.on aF.room
 simp only
 constructor
 ·rintro⟨h1,h2⟩
  split at h2
  ·rename_i h;exact⟨h,h2⟩
  ·cases h2
 ·rintro⟨h1,h2⟩
  rw[if_pos h1]
  exact⟨by omega,h2⟩
theorem pG.room(n:Nat):pG G w (G.room n) w:=
 ⟨fun _=>Nat.le_refl _,fun _ _ _=>rfl,Nat.le_add_right _ _,fun _ h=>gM.2 h,fun _ _=>rfl,Nat.le_refl _,fun _ _=>Nat.le_refl _,fun _ _ _=>⟨rfl,rfl⟩,fun _ _=>rfl,Nat.le_refl _,fun _ _=>rfl,fun _ _=>rfl⟩
theorem Step.room(n:Nat):Step G w (G.room n) w:=
 ⟨rfl,rfl,rfl,Nat.le_refl _,fun _=>Nat.le_refl _,fun _ _ _=>rfl,Nat.le_add_right _ _,fun k hk=>by simp only[aF.room,if_pos hk],fun _ _=>rfl,fun k h=>.inl ⟨k,gM.1 h,rfl⟩,fun _ _=>rfl,Nat.le_refl _,fun _ _=>Nat.le_refl _,
  fun _ _ _=>⟨rfl,rfl⟩,fun _ _=>rfl,fun _ h=>.inl ⟨h,rfl⟩,Nat.le_refl _,fun _ _=>rfl,fun _ h1 h2=>absurd h2 (by simp only[aF.room];omega),fun _ _ _ _ _=>⟨rfl,rfl⟩⟩
theorem bB.room{H:Heap}(hH:bB P G w H)(cs:List (List AV)):bB P (G.room cs.length) w {H with boxes:=H.boxes++cs}:=by
 have hk:pG G w (G.room cs.length) w:=pG.room _
 have hlv:∀j,G.on j→c8 {H with boxes:=H.boxes++cs} j→c8 H j:=fun j hj h=>by
  unfold c8 at h⊢
  rw[List.getElem?_append_left (by rw[←hH.nb];exact hj.1)]at h
  exact h
 refine⟨hH.base,by show G.nb+cs.length=(H.boxes++cs).length;rw[hH.nb,List.length_append],hH.nt,hH.nl,fun j hj hh=> ?_,fun i j hi hj li lj he=>hH.fI i j (gM.1 hi) (gM.1 hj) (hlv i (gM.1 hi) li) (hlv j (gM.1 hj) lj) he,
  fun j hj lj=>hH.gw j (gM.1 hj) (hlv j (gM.1 hj) lj),hH.tok,hH.gR,fun j t hj ht=>hH.jF j t (gM.1 hj) ht,fun l hl=> ?_,hH.kQ,hH.j5.BV (fun g hg=>⟨fun j hj=>hg.1 j (gM.1 hj),hg.2.1,hg.2.2⟩) (fun _ _ _ _ _ h=>h)⟩
 ·have hlt:j<H.boxes.length:=by
   simp only[aF.room]at hh
   split at hh
   ·rw[←hH.nb];assumption
   ·cases hh
  have BX:G.hole j=false:=by
   simp only[aF.room]at hh
   split at hh
   ·exact hh
   ·cases hh
  obtain⟨us,e,a1,a2,a3⟩:=hH.box j hlt BX
  have ec:(H.boxes++cs)[j]'(by simp;omega)=H.boxes[j]:=List.getElem_append_left hlt
  simp only[ec]
  exact⟨us,e,a1,a2,fun i i1 i2=>(a3 i i1 i2).keep hk⟩
 ·obtain⟨rec,a1,a2⟩:=hH.loop l hl
  exact⟨rec,a1,a2.step (Step.room _)⟩
theorem through{x:dX}{T:Env}{k j off:Nat}(hT:∀n,∃u,bG G w u (T n))(hk:G.hole k=true)(ho:qa x=true)(h:ev T x=.ptr j off):j≠k:=by
 cases x with
 |t n=>
  obtain⟨u,hu⟩:=hT n
  have h:T n=.ptr j off:=h
  rw[h]at hu
  cases hu with
  |ptr _ _ hj=>rintro rfl;rw[hj.2]at hk;cases hk
 |c v=>
  have h:v=.ptr j off:=h
  subst h
  simp[qa]at ho
theorem wL{x:dX}{T:Env}{k j off n es:Nat}(hT:∀n,∃u,bG G w u (T n))(hk:G.hole k=true)(ho:qa x=true)(h:ev T x=.cY j off n es):j≠k:=by
 cases x with
 |t m=>
  obtain⟨u,hu⟩:=hT m
  have h:T m=.cY j off n es:=h
  rw[h]at hu
  cases hu with
  |cY _ _ _ _ _ hj=>rintro rfl;rw[hj.2]at hk;cases hk
 |c v=>
  have h:v=.cY j off n es:=h
  subst h
  simp[qa]at ho
theorem Cb{call:bL}{o:aK}{T:Env}{H H':Heap}{v:AV}{k:Nat}(hT:∀n,∃u,bG G w u (T n))(hk:G.hole k=true)(hkl:k<H.boxes.length)(hs:m5 o=true)(h:exec (aM call) o T H=some (.val v H')):H'.boxes[k]?=H.boxes[k]?:=by
 obtain⟨B,K,e,-⟩:=gE (H2:=H) h (fun _=>rfl) (fun _=>rfl) rfl
 have e:H'=mix (bX o.op) B K H:=e
 cases hw:qv (bX o.op)with
 |false=>rw[e];unfold mix;rw[hw];rfl
 |true=>
  by_cases ha:bX o.op=.alloc
  ·obtain⟨B',hB⟩:=oY h ha
   rw[hB,List.getElem?_append_left hkl]
  ·unfold exec at h
   split at h
   ·unfold m5 at hs
    cases hop:o.op with
    |store n x y=>
     rw[hop]at h hs
     simp only at hs
     simp only[aM,aR,aW]at h
     cases hx:ev T x with
     |ptr j off=>
      have hne:=through hT hk hs hx
      rw[hx]at h
      simp only at h
      split at h
      ·rename_i H2 h2
       simp only[Option.some.injEq,Out.val.injEq]at h
       obtain⟨-,rfl⟩:=h
       split at h2
       ·split at h2
        ·simp only[Option.some.injEq]at h2
         subst h2
         exact List.getElem?_set_ne hne
        ·cases h2
       ·cases h2
      ·cases h
     |_=>rw[hx]at h;simp at h
    |dZ es b x y=>
     rw[hop]at h hs
     simp only at hs
     simp only[aM,aR]at h
     split at h
     ·rename_i r hr
      simp only[Option.some.injEq,Out.val.injEq]at h
      obtain⟨-,rfl⟩:=h
      unfold ef at hr
      split at hr
      ·rename_i m
       split at hr
       ·simp only[Option.some.injEq]at hr;rw[←hr]
       ·split at hr
        ·simp only[Option.some.injEq]at hr
         rw[←hr,List.getElem?_append_left hkl]
        ·cases hr
      ·rename_i j off n es' sk m hx hy
       have hne:=wL hT hk hs hx
       split at hr
       ·simp only[Option.some.injEq]at hr;rw[←hr]
       ·split at hr
        ·split at hr
         ·simp only[Option.some.injEq]at hr
          rw[←hr]
          simp only
          rw[List.getElem?_append_left (by simpa using hkl),List.getElem?_set_ne hne]
         ·cases hr
        ·cases hr
      ·cases hr
     ·cases h
    |fE z x=>
     rw[hop]at h hs
     simp only at hs
     simp only[aM,aR]at h
     split at h
     ·rename_i H2 hr
      simp only[Option.some.injEq,Out.val.injEq]at h
      obtain⟨-,rfl⟩:=h
      unfold jE at hr
      split at hr
      ·simp only[Option.some.injEq]at hr;rw[←hr]
      ·rename_i j off n es hx
       have hne:=wL hT hk hs hx
       split at hr
       ·split at hr
        ·simp only[Option.some.injEq]at hr
         rw[←hr]
         exact List.getElem?_set_ne hne
        ·cases hr
       ·cases hr
      ·cases hr
     ·cases h
    |_=>rw[hop]at hw ha;first|(exact absurd rfl ha)|(simp[bX,qv]at hw;done)
   ·simp only[Option.some.injEq,Out.val.injEq]at h
    rw[←h.2]
   ·cases h
theorem Em{o:aK}{z:AV}(h:kept o=some z):∃d,o=⟨some d,.box (.c z),none,o.deps⟩∧z≠.undef∧(∀vs,z≠.tuple vs)∧z.cells.all bI=true:=by
 obtain⟨dst,op,guard,deps⟩:=o
 unfold kept at h
 split at h
 ·rename_i d hg hd
  simp only at hg hd
  subst hg;subst hd
  unfold DZ at h
  split at h
  ·rename_i y hop
   simp only at hop
   subst hop
   split at h
   ·cases h
   ·cases h
   ·rename_i y' h1 h2
    split at h
    ·rename_i hc
     simp only[Option.some.injEq]at h
     subst h
     exact⟨d,rfl,h1,h2,hc⟩
    ·cases h
  ·cases h
 ·cases h
def eV:List aK→Nat→Nat
 |[],_=>0
 |_::_,0=>0
 |o::r,i+1=>(match kept o with|some _=>1|none=>0)+eV r i
def rv(x:Nat)(a:aK):aK:=match kept a with
 |some _=>{a with op:=.aE (.c (.ptr x 0))}
 |none=>a
theorem gT:∀(n:Nat)(l:List aK),(fU n l).length=l.length
 |_,[]=>rfl
 |n,o::r=>by
  unfold fU
  split<;>simp[gT _ r]
theorem qA:∀(n:Nat)(l:List aK)(i:Nat)(hi:i<l.length),(fU n l)[i]?=some (rv (n+eV l i) l[i])
 |n,o::r,0,hi=>by
  unfold fU
  cases hk:kept o with
  |some z=>simp[rv,hk,eV]
  |none=>simp[rv,hk]
 |n,o::r,i+1,hi=>by
  have hi':i<r.length:=by simpa using hi
  unfold fU
  cases hk:kept o with
  |some z=>
   simp only[List.getElem?_cons_succ,List.getElem_cons_succ]
   rw[qA (n+1) r i hi']
   simp only[eV,hk]
   rw[show n+1+eV r i=n+(1+eV r i)by omega]
  |none=>
   simp only[List.getElem?_cons_succ,List.getElem_cons_succ]
   rw[qA n r i hi']
   simp only[eV,hk,Nat.zero_add]
theorem tg:∀(l:List aK)(i:Nat)(hi:i<l.length)(z:AV),kept l[i]=some z→(cx l)[eV l i]?=some z.cells
 |o::r,0,hi,z,h=>by
  have h:kept o=some z:=h
  unfold cx
  rw[h];rfl
 |o::r,i+1,hi,z,h=>by
  have hi':i<r.length:=by simpa using hi
  have h:kept r[i]=some z:=h
  have ih:=tg r i hi' z h
  unfold cx
  cases hk:kept o with
  |some y=>simp only[eV,hk];rw[Nat.add_comm,List.getElem?_cons_succ];exact ih
  |none=>simp only[eV,hk,Nat.zero_add];exact ih
theorem qB:∀(l:List aK)(i j:Nat)(hi:i<l.length),i<j→(kept l[i]).isSome=true→eV l i<eV l j
 |o::r,0,j+1,hi,_,h=>by
  have h:(kept o).isSome=true:=h
  cases hk:kept o with
  |none=>rw[hk]at h;cases h
  |some z=>simp only[eV,hk];omega
 |o::r,i+1,j+1,hi,hij,h=>by
  have:=qB r i j (by simpa using hi) (by omega) h
  simp only[eV];omega
theorem Cc{l:List aK}{i j:Nat}(hi:i<l.length)(hj:j<l.length)(h1:(kept l[i]).isSome=true)(h2:(kept l[j]).isSome=true)(e:eV l i=eV l j):i=j:=by
 rcases Nat.lt_trichotomy i j with h|h|h
 ·have:=qB l i j hi h h1;omega
 ·exact h
 ·have:=qB l j i hj h h2;omega
theorem th:∀(n:Nat)(l:List aK),(fU n l).map (·.deps)=l.map (·.deps)
 |_,[]=>rfl
 |n,o::r=>by
  unfold fU
  split<;>simp[th _ r]
theorem En{a b:aK}{x y x' y':Nat}:gA (rv x a) (rv y b)=gA (rv x' a) (rv y' b):=by
 unfold rv
 cases kept a<;>cases kept b<;>rfl
theorem uG{a:aK}{x:Nat}:(rv x a).deps=a.deps:=by
 unfold rv
 cases kept a<;>rfl
end Go.Aa
namespace Go.Aa
open Go.RowKit
variable{P:Program}{G G':aF}{w w':World}
variable{mu:Bool}
theorem tj{x:Nat}:∀(l s:List Nat),x∈l.foldl (fun s x=>if s.contains x then s else x::s) s↔x∈s∨x∈l
 |[],s=>by simp
 |y::l,s=>by
  rw[List.foldl_cons,tj l]
  by_cases h:s.contains y=true
  ·rw[if_pos h]
   have:y∈s:=by simpa using h
   constructor
   ·rintro(h1|h1)
    ·exact .inl h1
    ·exact .inr (List.mem_cons_of_mem _ h1)
   ·rintro(h1|h1)
    ·exact .inl h1
    ·rcases List.mem_cons.1 h1 with rfl|h1
     ·exact .inl this
     ·exact .inr h1
  ·rw[if_neg h]
   simp only[List.mem_cons]
   constructor
   ·rintro((rfl|h1)|h1)<;>simp[*]
   ·rintro(h1|(rfl|h1))<;>simp[*]
theorem Eo{acc:List (List Nat)}{x:Nat}(es:List Edge):x∈qb acc es↔∃e∈es,dB e=true∧(x=e.on∨x∈acc.getD e.on []):=by
 have key:∀(es:List Edge)(s:List Nat),x∈es.foldl (fun s e=>(e.on::acc.getD e.on []).foldl (fun s x=>if s.contains x then s else x::s) s) s↔x∈s∨∃e∈es,x=e.on∨x∈acc.getD e.on []:=by
  intro es
  induction es with
  |nil=>intro s;simp
  |cons e es ih=>
   intro s
   rw[List.foldl_cons,ih,tj]
   simp only[List.mem_cons,exists_eq_or_imp]
   constructor
   ·rintro((h|h|h)|h)
    ·exact .inl h
    ·exact .inr (.inl (.inl h))
    ·exact .inr (.inl (.inr h))
    ·exact .inr (.inr h)
   ·rintro(h|(h|h)|h)
    ·exact .inl (.inl h)
    ·exact .inl (.inr (.inl h))
    ·exact .inl (.inr (.inr h))
    ·exact .inr h
 unfold qb
 rw[key]
 simp only[List.not_mem_nil,false_or,List.mem_filter]
 constructor
 ·rintro⟨e,⟨h1,h2⟩,h3⟩;exact⟨e,h1,h2,h3⟩
 ·rintro⟨e,h1,h2,h3⟩;exact⟨e,⟨h1,h2⟩,h3⟩
theorem tq(e:Edge):Region.binds .any e=dB e:=by
 unfold Region.binds dB
 cases e.ground<;>rfl
theorem o3{ops:List aK}(h:uw ops=true):(∀j(hj:j<ops.length),∀d∈(ops[j]).deps,d<j)∧
 ∀i j(hi:i<ops.length)(hj:j<ops.length),i<j→(ops[j]).deps.contains i=true∨gA ops[i] ops[j]=true:=by
 simp only[uw,List.all_eq_true,Bool.and_eq_true,Bool.or_eq_true,decide_eq_true_eq]at h
 refine⟨fun j hj d hd=> ?_,fun i j hi hj hij=> ?_⟩
 ·exact(h (ops[j],j) (by rw[List.mem_zipIdx_iff_getElem?];simp[hj])).1 d hd
 ·have:=(h (ops[j],j) (by rw[List.mem_zipIdx_iff_getElem?];simp[hj])).2 (ops[i],i) (by rw[List.mem_zipIdx_iff_getElem?];simp[hi])
  rcases this with(h1|h1)|h1
  ·simp only at h1;omega
  ·exact .inl h1
  ·exact .inr h1
structure Left(az:List aK)(listed:Array Bool)(R:List (aK×Nat)):Prop where
 mem:∀x∈R,az[x.2]?=some x.1∧listed.getD x.2 true=false
 all:∀j,j<az.length→listed.getD j true=false→∃x∈R,x.2=j
 sorted:R.Pairwise (fun x y=>x.2<y.2)
 size:listed.size=az.length
 closed:∀j(hj:j<az.length),listed.getD j false=true→∀d∈(az[j]).deps,listed.getD d false=true
theorem AW{l:Array Bool}{i:Nat}(h:i<l.size):l.getD i false=l.getD i true:=by simp[h]
theorem Cd{call:bL}(hc:cX P call){nt:Nat}{ops:Array Oper}{az:List aK}(r6:kY P mu nt ops [] ops.toList=some az)(hok:j0 az=true){ro:Option Nat}{Q:Exit→Act→World→Prop}{G0:aF}{w0:World}:
 ∀(R:List (aK×Nat))(fuel:Nat)(listed:Array Bool){G:aF}{w:World}{a:Act}{T:Env}{H:Heap}{out:kX},R.length=fuel→Left (fU G0.nb az) listed R→dN G w nt a.tmps T→bB P G w H→Step G0 w0 G w→
  (∀x∈R,∀o z,az[x.2]?=some o→kept o=some z→G.hole (G0.nb+eV az x.2)=true∧G0.nb+eV az x.2<G.nb∧H.boxes[G0.nb+eV az x.2]?=some z.cells)→
  ja call R none T H=some out→(∀e a' w',jx P G0 w0 nt a.defers out e a' w'→Q e a' w')→wpAnyIn (W ro) 0 P .any ops Q fuel listed a w:=by
 obtain⟨hlen,n7⟩:=j7 r6
 have OT:uw (fU 0 az)=true:=by unfold j0 at hok;rw[Bool.and_eq_true]at hok;exact hok.1
 have Eh:az.all m5=true:=by unfold j0 at hok;rw[Bool.and_eq_true]at hok;exact hok.2
 have tu:∀(n i:Nat)(hi:i<(fU n az).length),(fU n az)[i]=rv (n+eV az i) (az[i]'(by rw[gT]at hi;exact hi)):=fun n i hi=>by
  have h1:=qA n az i (by rw[gT]at hi;exact hi)
  rw[List.getElem?_eq_getElem hi]at h1
  exact Option.some.inj h1
 have OU:∀j(hj:j<(fU G0.nb az).length),∀d∈((fU G0.nb az)[j]).deps,d<j:=fun j hj d hd=>by
  refine(o3 OT).1 j (by rw[gT]at hj⊢;exact hj) d ?_
  rw[tu,uG]at hd⊢
  exact hd
 have OV:∀i j(hi:i<(fU G0.nb az).length)(hj:j<(fU G0.nb az).length),i<j→((fU G0.nb az)[j]).deps.contains i=true∨gA (fU G0.nb az)[i] (fU G0.nb az)[j]=true:=fun i j hi hj hij=>by
  have:=(o3 OT).2 i j (by rw[gT]at hi⊢;exact hi) (by rw[gT]at hj⊢;exact hj) hij
  rw[tu,tu,uG]at this
  rw[tu,tu,uG]
  rcases this with h|h
  ·exact .inl h
  ·right
   rw[←h];exact En
 generalize S8:fU G0.nb az=qu at*
 have Sf:qu.length=az.length:=by rw[←S8,gT]
 have hlen':qu.length=ops.size:=by rw[Sf];simpa using hlen
 have VU:qu.map (·.deps)=az.map (·.deps):=by rw[←S8,th]
 have Ep:∀j(hj:j<qu.length)(ho:j<ops.size),∀x,x∈(qu[j]).deps↔∃e∈(ops[j]).after.toList,dB e=true∧(x=e.on∨x∈((qu.take j).map (·.deps)).getD e.on []):=by
  intro j hj ho x
  have:=om (n7 j (by simpa using ho) (by omega))
  have e1:(qu[j]).deps=(az[j]'(by omega)).deps:=by
   have h1:(qu.map (·.deps))[j]?=(az.map (·.deps))[j]?:=by rw[VU]
   rw[List.getElem?_map,List.getElem?_map,List.getElem?_eq_getElem hj,List.getElem?_eq_getElem (show j<az.length by omega)]at h1
   exact Option.some.inj h1
  have e2:(qu.take j).map (·.deps)=(az.map (·.deps)).take j:=by rw[List.map_take,VU]
  rw[e1,this.2.2.2.1,Eo,e2]
  simp
 have IE:∀{R:List (aK×Nat)}{listed:Array Bool},Left qu listed R→Region.ready .any ops listed=[]→R=[]:=by
  intro R listed hl h
  cases R with
  |nil=>rfl
  |cons x R=>
   exfalso
   obtain⟨hx1,hx2⟩:=hl.mem x (by simp)
   have hxl:x.2<qu.length:=(List.getElem?_eq_some_iff.1 hx1).1
   have:x.2∈Region.ready .any ops listed:=by
    refine mem_ready.2 ⟨hx2,ops[x.2],by simp[←hlen',hxl],fun e he hb=> ?_⟩
    rw[tq]at hb
    have sg:e.on∈(qu[x.2]).deps:=(Ep x.2 hxl (by omega) e.on).2 ⟨e,by simpa using he,hb,.inl rfl⟩
    have hlt:=OU x.2 hxl _ sg
    cases hd:listed.getD e.on false with
    |true=>rfl
    |false=>
     rw[AW (by rw[hl.size];omega)]at hd
     obtain⟨y,hy,Y0⟩:=hl.all e.on (by omega) hd
     rcases List.mem_cons.1 hy with rfl|hy
     ·omega
     ·have:=(List.pairwise_cons.1 hl.sorted).1 y hy
      omega
   rw[h]at this
   cases this
 intro R fuel
 induction fuel generalizing R with
 |zero=>
  intro listed G w a T H out hR hl hT hH hs0 hinv h hQ
  have hnil:R=[]:=List.eq_nil_of_length_eq_zero hR
  subst hnil
  simp only[ja,Option.some.injEq]at h
  subst h
  refine⟨?_,hQ _ _ _ ⟨G,T,H,rfl,hs0,hT,hH,rfl⟩⟩
  cases hr:Region.ready .any ops listed with
  |nil=>rfl
  |cons i rs=>
   exfalso
   have hi:i∈Region.ready .any ops listed:=by rw[hr];simp
   obtain⟨h1,o,h2,_⟩:=mem_ready.1 hi
   obtain⟨x,hx,_⟩:=hl.all i (by rw[hlen'];exact(Array.getElem?_eq_some_iff.1 h2).1) h1
   cases hx
 |succ fuel ih=>
  intro listed G w a T H out hR hl hT hH hs0 hinv h hQ
  refine⟨fun h0=> ?_,fun i hi=> ?_⟩
  ·have:=IE hl h0
   subst this
   simp at hR
  ·obtain⟨h1,o,h2,h3⟩:=mem_ready.1 hi
   obtain⟨OW,rfl⟩:=Array.getElem?_eq_some_iff.1 h2
   have IF:i<qu.length:=by omega
   obtain⟨x,hx,cn⟩:=hl.all i IF h1
   obtain⟨x1,x2⟩:=x
   simp only at cn
   subst cn
   have S9:qu[x2]=x1:=by
    have:=(hl.mem _ hx).1
    rw[List.getElem?_eq_getElem IF]at this
    exact Option.some.inj this
   have KL:∀d∈x1.deps,listed.getD d false=true:=by
    intro d hd
    rw[←S9]at hd
    obtain⟨e,he,hh,VV⟩:=(Ep x2 IF OW d).1 hd
    have hone:=h3 e (by simpa using he) (by rw[tq];exact hh)
    rcases VV with rfl|hin
    ·exact hone
    ·have hel:e.on<x2:=OU x2 IF _ ((Ep x2 IF OW e.on).2 ⟨e,he,hh,.inl rfl⟩)
     have:((qu.take x2).map (·.deps)).getD e.on []=(qu[e.on]).deps:=by
      rw[List.getD_eq_getElem?_getD]
      simp[hel,show e.on<qu.length by omega]
     rw[this]at hin
     exact hl.closed e.on (by omega) hone d hin
   obtain⟨A,B,rfl⟩:=List.append_of_mem hx
   have hnone:∀b∈A++B,x1.deps.contains b.2=false:=by
    intro b hb
    have hb':b∈A++(x1,x2)::B:=by
     rcases List.mem_append.1 hb with hb|hb
     ·exact List.mem_append_left _ hb
     ·exact List.mem_append_right _ (List.mem_cons_of_mem _ hb)
    have hu:=hl.mem b hb'
    cases yW:x1.deps.contains b.2 with
    |false=>rfl
    |true=>
     have:=KL b.2 (by simpa using yW)
     have OG:=(List.getElem?_eq_some_iff.1 hu.1).1
     rw[AW (by rw[hl.size];exact OG),hu.2]at this
     cases this
   have hp:(A++(x1,x2)::B).Pairwise (fun x y=>y.1.deps.contains x.2=true∨gA x.1 y.1=true):=by
    refine hl.sorted.imp_of_mem fun{u v}hu hv huv=> ?_
    have mu:=(hl.mem u hu).1
    have mv:=(hl.mem v hv).1
    obtain⟨lu,eu⟩:=List.getElem?_eq_some_iff.1 mu
    obtain⟨lv,ev⟩:=List.getElem?_eq_some_iff.1 mv
    have:=OV u.2 v.2 lu lv huv
    rw[eu,ev]at this
    exact this
   obtain⟨oi,f1,f2⟩:=front hp (fun b hb=>hnone b (List.mem_append_left _ hb)) h
   have hsplit:=List.pairwise_append.1 hl.sorted
   have hl':Left qu (listed.setIfInBounds x2 true) (A++B):=by
    refine⟨fun y hy=> ?_,fun j hj hu=> ?_,?_,by simpa using hl.size,fun j hj hu d hd=> ?_⟩
    ·have hy':y∈A++(x1,x2)::B:=by
      rcases List.mem_append.1 hy with hb|hb
      ·exact List.mem_append_left _ hb
      ·exact List.mem_append_right _ (List.mem_cons_of_mem _ hb)
     have hne:y.2≠x2:=by
      rcases List.mem_append.1 hy with hb|hb
      ·have:=hsplit.2.2 y hb (x1,x2) (by simp)
       simp only at this;omega
      ·have:=(List.pairwise_cons.1 hsplit.2.1).1 y hb
       simp only at this;omega
     exact⟨(hl.mem y hy').1,by rw[getD_set_ne true (Ne.symm hne)];exact(hl.mem y hy').2⟩
    ·have hne:x2≠j:=by
      rintro rfl
      have hlt:x2<listed.size:=by rw[hl.size];exact hj
      simp[hlt]at hu
     rw[getD_set_ne true hne]at hu
     obtain⟨y,hy,S'⟩:=hl.all j hj hu
     refine⟨y,?_,S'⟩
     rcases List.mem_append.1 hy with hb|hb
     ·exact List.mem_append_left _ hb
     ·rcases List.mem_cons.1 hb with rfl|hb
      ·simp only at S';exact absurd S' hne
      ·exact List.mem_append_right _ hb
    ·exact List.pairwise_append.2 ⟨hsplit.1,(List.pairwise_cons.1 hsplit.2.1).2,fun u hu v hv=>hsplit.2.2 u hu v (List.mem_cons_of_mem _ hv)⟩
    ·by_cases hne:x2=j
     ·subst hne
      rw[S9]at hd
      exact getD_set_true (KL d hd)
     ·rw[getD_set_ne false hne]at hu
      exact getD_set_true (hl.closed j hj hu d hd)
   have IG:x2<az.length:=by omega
   have Oo:=n7 x2 (by simpa using OW) IG
   have hx1:x1=rv (G0.nb+eV az x2) az[x2]:=by
    rw[←S9]
    subst S8
    exact tu G0.nb x2 IF
   have qe:∀y∈A++B,y.2≠x2∧y∈A++(x1,x2)::B:=fun y hy=>by
    have hy':y∈A++(x1,x2)::B:=by
     rcases List.mem_append.1 hy with hb|hb
     ·exact List.mem_append_left _ hb
     ·exact List.mem_append_right _ (List.mem_cons_of_mem _ hb)
    refine⟨?_,hy'⟩
    rcases List.mem_append.1 hy with hb|hb
    ·have:=hsplit.2.2 y hb (x1,x2) (by simp)
     simp only at this;omega
    ·have:=(List.pairwise_cons.1 hsplit.2.1).1 y hb
     simp only at this;omega
   cases hkp:kept az[x2]with
   |none=>
    unfold rv at hx1
    rw[hkp]at hx1
    simp only at hx1
    rw[←hx1]at Oo
    have Ta:exec (aR call) x1 T H=some oi:=B8 f1
    have Xt:m5 x1=true:=by rw[hx1];exact List.all_eq_true.1 Eh _ (List.getElem_mem IG)
    refine ld hc (o:=ops[x2]) (by simp[OW]) (by simpa using Oo) hT hH Ta (fun v H' a' w' G' e hst hh ht hdf=> ?_) (fun v H' r w' G' e hst hh hr=> ?_)
    ·subst e
     refine ih (A++B) _ (by simp at hR⊢;omega) hl' ht hh (hs0.trans hst) (fun y hy o z ho hz=> ?_) f2 fun e a2 w2 hq=>hQ _ _ _ (by rw[hdf]at hq;exact hq)
     obtain⟨i1,i2,i3⟩:=hinv y (qe y hy).2 o z ho hz
     exact⟨(hst.hole _ i2).trans i1,Nat.lt_of_lt_of_le i2 hst.nb,(Cb (fun n=>⟨_,hT.get n⟩) i1 (by rw[←hH.nb];exact i2) Xt f1).trans i3⟩
    ·subst e
     simp only at f2
     subst f2
     exact hQ _ _ _ ⟨r,v,H',G',rfl,rfl,hs0.trans hst,hh,hr,rfl⟩
   |some z=>
    unfold rv at hx1
    rw[hkp]at hx1
    simp only at hx1
    obtain⟨i1,i2,i3⟩:=hinv (x1,x2) (by simp) az[x2] z (List.getElem?_eq_getElem IG) hkp
    simp only at i1 i2 i3
    obtain⟨d,ed,z1,z2,z3⟩:=Em hkp
    rw[ed]at hx1 Oo
    generalize(az[x2]).deps=dd at*
    generalize hkk:G0.nb+eV az x2=k at*
    have Xu:oi=.val (.ptr k 0) H:=by
     rw[hx1]at f1
     simpa[exec,cJ,aM,aR,cj,ev]using f1.symm
    subst Xu
    simp only at f2
    have Xv:exec (aR call) ⟨some d,.box (.c z),none,dd⟩ T H=some (.val (.ptr H.boxes.length 0) {H with boxes:=H.boxes++[z.cells]}):=by
     simp only[exec,cJ,aR,ev]
     cases z<;>first|rfl|exact absurd rfl z1|exact absurd rfl (z2 _)
    refine ld hc (o:=ops[x2]) (by simp[OW]) (by simpa using Oo) hT hH Xv (fun v H' a' w' G' e hst hh ht hdf=> ?_) (fun v H' r w' G' e hst hh hr=>by cases e)
    simp only[Out.val.injEq]at e
    obtain⟨rfl,rfl⟩:=e
    have Iw:G'.nb=H.boxes.length+1:=by rw[hh.nb];simp
    have Ca:G'.nb-1=G.nb:=by rw[Iw,hH.nb];omega
    have hk':G'.hole k=true:=(hst.hole _ i2).trans i1
    have Er:=ht.get d
    rw[show aU T (some d) (.ptr H.boxes.length 0) d=.ptr H.boxes.length 0 by simp[aU,DM]]at Er
    have sg:G'.on H.boxes.length:=by
     generalize a'.tmps.getD d undef=u at Er
     cases Er with
     |ptr _ _ h=>exact h
    have Tb:G'.on (G'.nb-1):=by rw[Ca,hH.nb];exact sg
    have hset:=bB.settle hh hk' i3 sg.2 (fun j hj hq x hx v hr=>by
     rcases hq with rfl|hq
     ·have e1:H.boxes[j]=z.cells:=by
       rw[List.getElem?_eq_getElem hj]at i3
       exact Option.some.inj i3
      rw[e1]at hx
      exact⟨0,0,.data _ (gC (List.all_eq_true.1 z3 x hx) hr)⟩
     ·have hj2:G.hole j=false:=by rw[←hst.hole j (by rw[hH.nb];exact hj)];exact hq
      obtain⟨us,el,-,⟨b2,-⟩,b3⟩:=hH.box j hj hj2
      obtain⟨i,hi,rfl⟩:=List.getElem_of_mem hx
      have:=(b3 i (by omega) hi).fits
      rw[hH.nb]at this
      exact⟨_,_,this⟩) (fun r hr=>by
     obtain⟨l,hl,rfl⟩:=List.getElem_of_mem hr
     obtain⟨rec,-,b⟩:=hH.loop l hl
     have:=b.fits.1
     rw[hH.nb]at this
     exact this)
    have htr:dN (G'.settle k) w' nt a'.tmps (aU T (some d) (.ptr k 0)):=by
     refine⟨ht.size,fun i=> ?_⟩
     have hi:=ht.get i
     by_cases e:i=d
     ·subst e
      rw[show aU T (some i) (.ptr H.boxes.length 0) i=.ptr H.boxes.length 0 by simp[aU,DM]]at hi
      rw[show aU T (some i) (.ptr k 0) i=.ptr k 0 by simp[aU,DM]]
      generalize a'.tmps.getD i undef=u at hi
      cases hi with
      |ptr _ _ h=>
       have sP:(G'.settle k).μ k=G'.μ H.boxes.length:=by simp only[aF.settle,if_pos];rw[Ca,hH.nb]
       rw[←sP]
       exact .ptr k 0 ⟨by show k<G'.nb-1;rw[Ca];exact i2,by simp[aF.settle]⟩
     ·rw[show aU T (some d) (.ptr H.boxes.length 0) i=T i by simp only[aU];rw[hO,if_neg e]]at hi
      rw[show aU T (some d) (.ptr k 0) i=T i by simp only[aU];rw[hO,if_neg e]]
      have hf:=(hT.get i).fits
      exact hi.settle hk' (by rw[Ca];exact hf)
    have Sg:Step G0 w0 (G'.settle k) w':=(hs0.trans hst).settle (by omega) (by rw[Ca];exact i2) Tb
    rw[hx1]at f2
    refine ih (A++B) _ (by simp at hR⊢;omega) hl' htr hset Sg (fun y hy o z' ho hz=> ?_) f2 fun e a2 w2 hq=>hQ _ _ _ (by rw[hdf]at hq;exact hq)
    obtain⟨j1,j2,j3⟩:=hinv y (qe y hy).2 o z' ho hz
    have VJ:=(List.getElem?_eq_some_iff.1 ho).1
    have hne:G0.nb+eV az y.2≠k:=by
     intro e
     refine(qe y hy).1 (Cc VJ IG ?_ (by rw[hkp];rfl) (by omega))
     rw[(List.getElem?_eq_some_iff.1 ho).2,hz];rfl
    refine⟨?_,by show _<G'.nb-1;rw[Ca];exact j2,j3⟩
    simp only[aF.settle,if_neg hne]
    exact(hst.hole _ j2).trans j1
theorem uH{call:bL}(hc:cX P call)(hm:P.follows .mixedOrders=true){nt:Nat}{ops:Array Oper}{az:List aK}(r6:kY P mu nt ops [] ops.toList=some az){draw:Bool}(hok:draw=true→j0 az=true)
 {ro:Option Nat}{a:Act}{T:Env}{H:Heap}{out:kX}(hT:dN G w nt a.tmps T)(hH:bB P G w H)(h:dK call draw az T H=some out){id:Nat}:
 (Code.region id ops draw).wpIn (W ro) 0 P (jx P G w nt a.defers out) a w:=by
 have hlen:=(j7 r6).1
 cases draw with
 |false=>
  refine wpIn_region ?_
  have:=Ek hc r6 (ro:=ro) (Q:=jx P G w nt a.defers out) ops.size 0 (by omega) hT hH (by simpa[dK]using h) (fun _ _ _ h=>h)
  rwa [←List.range_eq_range']at this
 |true=>
  have hg:Grow G w G w.drew:=.drew hH.base
  refine wpIn_region_any hm ?_
  have hrun:ja call (fU H.boxes.length az).zipIdx none T {H with boxes:=H.boxes++cx az}=some out:=by rw[←iN,←D1];simpa[dK]using h
  have hs1:Step G w G w.drew:=hg.step hH.base
  have Sg:Step G w (G.room (cx az).length) w.drew:=hs1.trans (Step.room _)
  have Sf:(fU G.nb az).length=ops.size:=by rw[gT];simpa using hlen
  rw[←hH.nb]at hrun
  refine Cd hc r6 (hok rfl) (G0:=G) (w0:=w) (fU G.nb az).zipIdx ops.size _ (w:=w.drew) (G:=G.room (cx az).length) (by simpa using Sf) ?_ (hT.step Sg) ((hH.grow hg).room (cx az)) Sg (fun x hx o z ho hz=> ?_) hrun fun e a' w' hq=>hq
  ·refine⟨fun x hx=> ?_,fun j hj hu=> ?_,?_,by simp;exact Sf.symm,fun j hj hu=> ?_⟩
   ·rw[List.mem_zipIdx_iff_getElem?]at hx
    have hlt:=(List.getElem?_eq_some_iff.1 hx).1
    refine⟨hx,?_⟩
    have:x.2<ops.size:=by omega
    simp[this]
   ·exact⟨((fU G.nb az)[j],j),by rw[List.mem_zipIdx_iff_getElem?];simp[hj],rfl⟩
   ·rw[List.pairwise_iff_getElem]
    intro i j hi hj hij
    simp only[List.getElem_zipIdx]
    omega
   ·exfalso
    by_cases hlt:j<ops.size
    ·simp[hlt]at hu
    ·simp[hlt]at hu
  ·obtain⟨DO,Iv⟩:=List.getElem?_eq_some_iff.1 ho
   have qy:=tg az x.2 DO z (by rw[Iv];exact hz)
   have hlt:=(List.getElem?_eq_some_iff.1 qy).1
   refine⟨?_,?_,?_⟩
   ·simp only[aF.room]
    rw[if_neg (by omega)]
   ·show G.nb+_<G.nb+_
    omega
   ·show(H.boxes++cx az)[G.nb+eV az x.2]?=_
    rw[hH.nb,List.getElem?_append_right (by omega),Nat.add_sub_cancel_left]
    exact qy
end Go.Aa
namespace Go.Aa
open Go.RowKit
variable{P:Program}{G G':aF}{w w':World}
variable{mu:Bool}
def Ce:Obj→Prop
 |.cells .. =>False
 |_=>True
theorem jy{b:Nat}{o1 o2:Obj}(h:w.heap[b]?=some o1)(h1:Ce o1)(h2:Ce o2):pG G w G (w.putObj b o2):=by
 refine⟨fun _=>Nat.le_refl _,fun c off ho=> ?_,Nat.le_refl _,fun _ h=>h,fun _ _=>rfl,Nat.le_refl _,fun _ _=>Nat.le_refl _,fun _ _ _=>⟨rfl,rfl⟩,fun _ _=>rfl,Nat.le_refl _,fun _ _=>rfl,fun _ _=>rfl⟩
 by_cases hc:c=b
 ·subst hc
  have hlt:=(Array.getElem?_eq_some_iff.1 h).1
  unfold World.cell?
  simp only
  rw[World.putObj_heap_same hlt,h]
  cases o1<;>cases o2<;>first|rfl|exact h1.elim|exact h2.elim
 ·unfold World.cell?
  simp only
  rw[World.putObj_heap_other hc]
theorem Step.putObj{G0:aF}{w0:World}{b:Nat}{o1 o2:Obj}(hst:Step G0 w0 G w)(h:w.heap[b]?=some o1)(h1:Ce o1)(h2:Ce o2)(hb:w0.heap.size≤b∨∃k,k<G0.nl∧b=G0.ln k):Step G0 w0 G (w.putObj b o2):=by
 have hk:=jy (G:=G) h h1 h2
 refine⟨hst.os,hst.tape,hst.output,by simpa using hst.size,hst.lim,fun c off ho=> ?_,hst.nb,hst.hole,hst.μ,hst.jJ,hst.mc,hst.nt,hst.ext,hst.τ,hst.mw,hst.kH,hst.nl,hst.ln,hst.pF,fun c hc k1 k2 k3=> ?_⟩
 ·rw[hk.cell c off (Nat.lt_of_lt_of_le ho (hst.lim c))]
  exact hst.cell c off ho
 ·obtain⟨e1,e2⟩:=hst.frame c hc k1 k2 k3
  refine⟨?_,e2⟩
  rw[World.putObj_heap_other ?_,e1]
  rintro rfl
  rcases hb with hb|⟨k,hk',rfl⟩
  ·omega
  ·exact k3 k hk' rfl
theorem k5.keep{r:jk}{rec:Loop}(h:k5 P G w r rec)(hk:pG G w G' w'):k5 P G' w' r rec:=by
 obtain⟨h1,h2,h3,h5,⟨f1,f2,f3,f4⟩,mu,nt,h4,h6⟩:=h
 exact⟨h1,h2,h3,h5,⟨Nat.le_trans f1 hk.nb,Nat.le_trans f2 hk.nt,Nat.le_trans f3 hk.nl,f4⟩,mu,nt,⟨h4.size,fun i=>(h4.get i).keep hk⟩,h6⟩
theorem bB.putObj{H:Heap}(hH:bB P G w H){b:Nat}{o1 o2:Obj}(h:w.heap[b]?=some o1)(h1:Ce o1)(h2:Ce o2)(hb:∀k,k<G.nl→b≠G.ln k):bB P G (w.putObj b o2) H:=by
 have hk:=jy (G:=G) h h1 h2
 have hne:∀(c:Nat)us e,w.heap[c]?=some (Obj.cells us e (0,0))→(w.putObj b o2).heap[c]?=some (Obj.cells us e (0,0)):=by
  intro c us e hc
  rw[World.putObj_heap_other ?_,hc]
  rintro rfl
  rw[h]at hc
  cases hc
  exact h1
 refine⟨fun c hc=>hH.base c (by simpa using hc),hH.nb,hH.nt,hH.nl,fun k hk' hh=> ?_,hH.fI,hH.gw,fun t ht=> ?_,hH.gR,hH.jF,fun l hl=> ?_,hH.kQ,hH.j5.BV (fun _ h=>h) (fun c us e m _ hc=>by
  rw[World.putObj_heap_other ?_,hc]
  rintro rfl
  rw[h]at hc
  cases hc
  exact h1)⟩
 ·obtain⟨us,e,a1,a2,a3⟩:=hH.box k hk' hh
  exact⟨us,e,hne _ _ _ a1,a2,fun i i1 i2=>(a3 i i1 i2).keep hk⟩
 ·obtain⟨a0,us,e,a1,a2⟩:=hH.tok t ht
  exact⟨a0,us,e,hne _ _ _ a1,a2⟩
 ·obtain⟨rec,a1,a2⟩:=hH.loop l hl
  refine⟨rec,?_,a2.keep hk⟩
  rw[World.putObj_heap_other ?_,a1]
  exact fun e=>hb l (by rw[hH.nl];exact hl) e.symm
theorem bB.AX{H:Heap}(hH:bB P G w H){l:Nat}{rec y2:Loop}{r:jk}(hl:l<G.nl)(h:w.heap[G.ln l]?=some (.loop rec))(hr:k5 P G w r y2):
 bB P G (w.putObj (G.ln l) (.loop y2)) {H with loops:=H.loops.set l r}:=by
 have hk:=jy (G:=G) (o2:=.loop y2) h trivial trivial
 have hlt:=(Array.getElem?_eq_some_iff.1 h).1
 have hne:∀(c:Nat)us e,w.heap[c]?=some (Obj.cells us e (0,0))→(w.putObj (G.ln l) (.loop y2)).heap[c]?=some (Obj.cells us e (0,0)):=by
  intro c us e hc
  rw[World.putObj_heap_other ?_,hc]
  intro e'
  rw[e',h]at hc
  cases hc
 refine⟨fun c hc=>hH.base c (by simpa using hc),hH.nb,hH.nt,by simpa using hH.nl,fun k hk' hh=> ?_,hH.fI,hH.gw,fun t ht=> ?_,hH.gR,hH.jF,fun l' hl'=> ?_,hH.kQ,hH.j5.BV (fun _ h=>h) (fun c us e m _ hc=>by
  rw[World.putObj_heap_other ?_,hc]
  intro e'
  rw[e',h]at hc
  cases hc)⟩
 ·obtain⟨us,e,a1,a2,a3⟩:=hH.box k hk' hh
  exact⟨us,e,hne _ _ _ a1,a2,fun i i1 i2=>(a3 i i1 i2).keep hk⟩
 ·obtain⟨a0,us,e,a1,a2⟩:=hH.tok t ht
  exact⟨a0,us,e,hne _ _ _ a1,a2⟩
 ·have OX:l'<H.loops.length:=by simpa using hl'
  by_cases he:l=l'
  ·subst he
   exact⟨y2,World.putObj_heap_same hlt,by simpa using hr.keep hk⟩
  ·obtain⟨mJ,a1,a2⟩:=hH.loop l' OX
   refine⟨mJ,?_,?_⟩
   ·rw[World.putObj_heap_other ?_,a1]
    exact fun e=>he (hH.kQ _ _ hl (by rw[hH.nl];exact OX) e.symm)
   ·simpa[List.getElem_set_ne he]using a2.keep hk
structure Marks(w0 w:World)(df:List Deferred):Prop where
 mark:∀d∈df,∃b,d.target=.collected b∧w0.heap.size≤b∧w.heap[b]?=some (.deferred (some []))
 apart:df.Pairwise fun d e=>∀b,d.target=.collected b→e.target≠.collected b
theorem Marks.nil(w0 w:World):Marks w0 w []:=⟨fun d h=>(by cases h),List.Pairwise.nil⟩
theorem Marks.step{w0:World}{df:List Deferred}{H:Heap}(h:Marks w0 w df)(hH:bB P G w H)(hst:Step G w G' w'):Marks w0 w' df:=by
 refine⟨fun d hd=> ?_,h.apart⟩
 obtain⟨b,h1,h2,h3⟩:=h.mark d hd
 refine⟨b,h1,h2,?_⟩
 rw[(hst.frame b (Array.getElem?_eq_some_iff.1 h3).1 (fun k hk e=> ?_) (fun t ht e=> ?_) (fun k hk e=> ?_)).1,h3]
 ·obtain⟨us,e',hb,_⟩:=hH.box k (by rw[←hH.nb];exact hk.1) hk.2
  rw[←e,h3]at hb;cases hb
 ·obtain⟨_,us,e',hb,_⟩:=hH.tok t (by rw[←hH.nt];exact ht)
  rw[←e,h3]at hb;cases hb
 ·obtain⟨rec,hb,_⟩:=hH.loop k (by rw[←hH.nl];exact hk)
  rw[←e,h3]at hb;cases hb
theorem Marks.put{w0:World}{df:List Deferred}(h:Marks w0 w df){b:Nat}{o1 o2:Obj}(hb:w.heap[b]?=some o1)(hne:∀x,o1≠.deferred x):Marks w0 (w.putObj b o2) df:=by
 refine⟨fun d hd=> ?_,h.apart⟩
 obtain⟨c,h1,h2,h3⟩:=h.mark d hd
 refine⟨c,h1,h2,?_⟩
 rw[World.putObj_heap_other ?_,h3]
 rintro rfl
 rw[h3]at hb
 cases hb
 exact hne _ rfl
theorem j9{G0:aF}{w0:World}{H:Heap}{cs:List Frame}:∀(df:List Deferred){w:World}{fr:Frame},Step G0 w0 G w→bB P G w H→Marks w0 w df→fr.mode≠.run→fr.defers=df→
 ∃w',Steps P (lone fr cs w) (lone {fr with defers:=[]} cs w')∧Step G0 w0 G w'∧bB P G w' H∧pG G w G w'
 |[],w,fr,hst,hH,hm,hr,hd=>by
  refine⟨w,?_,hst,hH,(Step.refl G w).keep⟩
  have:{fr with defers:=[]}=fr:=by cases fr;simp_all
  rw[this]
  exact .refl _ _
 |d::ds,w,fr,hst,hH,hm,hr,hd=>by
  obtain⟨b,h1,h2,h3⟩:=hm.mark d (by simp)
  have hk:=jy (G:=G) (o2:=.deferred none) h3 trivial trivial
  have Tc:Step G0 w0 G (w.putObj b (.deferred none)):=hst.putObj h3 trivial trivial (.inl h2)
  have Xw:bB P G (w.putObj b (.deferred none)) H:=hH.putObj h3 trivial trivial fun k hk e=>by
   obtain⟨rec,hb,_⟩:=hH.loop k (by rw[←hH.nl];exact hk)
   rw[←e,h3]at hb;cases hb
  have ha:=List.pairwise_cons.1 hm.apart
  have hm':Marks w0 (w.putObj b (.deferred none)) ds:=by
   refine⟨fun e he=> ?_,ha.2⟩
   obtain⟨c,j1,j2,j3⟩:=hm.mark e (List.mem_cons_of_mem _ he)
   refine⟨c,j1,j2,?_⟩
   rw[World.putObj_heap_other ?_,j3]
   rintro rfl
   exact ha.1 e he c h1 j1
  have h0:=step_collected (P:=P) (cs:=cs) (w:=w) hr hd h1 (run_takeDeferred h3)
  obtain⟨w',s1,s2,s3,s4⟩:=j9 ds (fr:={fr with defers:=[]++ds}) Tc Xw hm' hr rfl
  refine⟨w',.head h0 s1,s2,s3,?_⟩
  exact⟨fun c=>Nat.le_refl _,fun c off ho=>(s4.cell c off ho).trans (hk.cell c off ho),Nat.le_refl _,fun _ h=>h,fun _ _=>rfl,Nat.le_refl _,fun _ _=>Nat.le_refl _,fun _ _ _=>⟨rfl,rfl⟩,fun _ _=>rfl,Nat.le_refl _,fun _ _=>rfl,fun _ _=>rfl⟩
def oo(tmps:Array Value):ResultVar→Sem Value
 |.tmp t=>pure (tmps.getD t undef)
 |.cell a t=>do loadVar t (←asAddr (tmps.getD a undef))
theorem y3(fn:Func)(tmps:Array Value):results fn tmps=(do let vs←fn.results.mapM (oo tmps);pure (if h:vs.size=1 then vs[0]else .tuple vs)):=rfl
theorem Cf{u:Value}{x z:AV}{g:Bool}{n:Nat}{H:Heap}(hx:bG G w u x)(h:ak g n H x=some z):∃a,u=.pointer (some a):=by
 cases hx with
 |ptr k off hk=>exact⟨_,rfl⟩
 |ref a=>exact⟨_,rfl⟩
 |_=>simp[ak]at h
theorem mK{nt:Nat}{tmps:Array Value}{T:Env}{H:Heap}(hT:dN G w nt tmps T)(hH:bB P G w H):∀{rs:List ResultVar}{az:List Ow}{vs:List AV},qc P rs=some az→mC T H az=some vs→
 ∃us:List Value,(rs.mapM (oo tmps)).run P w=.ok us w∧us.length=vs.length∧∀i(h1:i<us.length)(h2:i<vs.length),bG G w us[i] vs[i]
 |[],az,vs,hc,h=>by
  simp only[qc,Option.some.injEq]at hc
  subst hc
  simp only[mC,Option.some.injEq]at h
  subst h
  exact⟨[],rfl,rfl,fun i h1=>absurd h1 (by simp)⟩
 |.tmp t::rs,az,vs,hc,h=>by
  simp only[qc,Option.map_eq_some_iff]at hc
  obtain⟨qu,KM,rfl⟩:=hc
  simp only[mC,LB]at h
  split at h<;>simp only[Option.some.injEq,reduceCtorEq]at h
  rename_i v vs' h1 h2
  simp only[Option.some.injEq]at h1
  subst h;subst h1
  obtain⟨us,e1,e2,e3⟩:=mK hT hH KM h2
  refine⟨tmps.getD t undef::us,?_,by simp[e2],fun i h1 h2=> ?_⟩
  ·simp only[List.mapM_cons,oo,Sem.run_bind,Sem.run_pure,Result.andThen_ok,e1]
  ·cases i with
   |zero=>exact hT.get t
   |succ i=>simpa using e3 i (by simpa using h1) (by simpa using h2)
 |.cell t ty::rs,az,vs,hc,h=>by
  simp only[qc]at hc
  split at hc<;>simp only[Option.some.injEq,reduceCtorEq]at hc
  rename_i g n qu g1 g2 KM
  subst hc
  simp only[mC,LB]at h
  split at h<;>simp only[Option.some.injEq,reduceCtorEq]at h
  rename_i v vs' h1 h2
  subst h
  obtain⟨us,e1,e2,e3⟩:=mK hT hH KM h2
  obtain⟨u,f1,f2⟩:=sQ hH (hT.get t) h1 g1 g2
  obtain⟨ad,had⟩:=Cf (hT.get t) h1
  rw[had]at f1
  refine⟨u::us,?_,by simp[e2],fun i h1 h2=> ?_⟩
  ·have Ta:(oo tmps (.cell t ty)).run P w=.ok u w:=by
    simp only[oo]
    rw[had]
    exact f1
   simp only[List.mapM_cons,Sem.run_bind,Sem.run_pure,Result.andThen_ok,e1,Ta]
  ·cases i with
   |zero=>exact f2
   |succ i=>simpa using e3 i (by simpa using h1) (by simpa using h2)
theorem II{fn:Func}{nt:Nat}{tmps:Array Value}{T:Env}{H H':Heap}{A:aO}{r:cZ}(hT:dN G w nt tmps T)(hH:bB P G w H)(hc:qc P fn.results.toList=some A.results)(h:p7 A T H=some (r,H')):
 H'=H∧∃v u,r=.ret v∧(results fn tmps).run P w=.ok u w∧bG G w u v:=by
 unfold p7 at h
 have key:∀vs,mC T H A.results=some vs→∃us:Array Value,(fn.results.mapM (oo tmps)).run P w=.ok us w∧
  us.size=vs.length∧∀i(h1:i<us.size)(h2:i<vs.length),bG G w us[i] vs[i]:=by
  intro vs hvs
  obtain⟨us,e1,e2,e3⟩:=mK hT hH hc hvs
  refine⟨us.toArray,?_,by simpa using e2,fun i h1 h2=>by simpa using e3 i (by simpa using h1) h2⟩
  rw[Array.mapM_eq_mapM_toList]
  simp[e1]
 rw[y3]
 split at h
 ·rename_i v hv
  simp only[Option.some.injEq,Prod.mk.injEq]at h
  obtain⟨rfl,rfl⟩:=h
  obtain⟨us,e1,e2,e3⟩:=key _ hv
  refine⟨rfl,v,us[0]'(by simp[e2]),rfl,?_,by simpa using e3 0 (by simp[e2]) (by simp)⟩
  simp only[Sem.run_bind,e1,Result.andThen_ok]
  rw[dif_pos (show us.size=1 by simpa using e2)]
  rfl
 ·rename_i vs hne hvs
  simp only[Option.some.injEq,Prod.mk.injEq]at h
  obtain⟨rfl,rfl⟩:=h
  obtain⟨us,e1,e2,e3⟩:=key _ hvs
  refine⟨rfl,.tuple vs,.tuple us,rfl,?_,.tuple us vs e2 e3⟩
  simp only[Sem.run_bind,e1,Result.andThen_ok]
  rw[dif_neg (show us.size≠1 from fun h1=> ?_)]
  ·rfl
  ·rw[e2]at h1
   obtain⟨x,rfl⟩:=List.length_eq_one_iff.1 h1
   exact hne _ rfl
 ·cases h
end Go.Aa
namespace Go.Aa
open Go.RowKit
variable{P:Program}{G G':aF}{w w':World}
variable{mu:Bool}
inductive nu(P:Program)(mu:Bool)(nt:Nat)(ρ:Option Nat):List c7→List Item→Prop
 |nil:nu P mu nt ρ [] []
 |code{c:Code}{ac:aD}{k:List c7}{todo:List Item}(h:eB P mu nt c=some ac)(hk:nu P mu nt ρ k todo):nu P mu nt ρ (.c ac::k) (.code c::todo)
 |blk{id:Nat}{k:List c7}{todo:List Item}(hk:nu P mu nt ρ k todo):nu P mu nt ρ (.blk id::k) (.inBlock id::todo)
 |lp{c:Code}{ac:aD}{k:List c7}{todo:List Item}(h:eB P mu nt c=some ac)(hk:nu P mu nt ρ k todo):nu P mu nt ρ (.lp ac::k) (.inLoop c::todo)
 |BS{l:Nat}{k:List c7}{todo:List Item}(h:ρ=some l)(hk:nu P mu nt ρ k todo):nu P mu nt ρ (.BS l::k) (.beginRound::todo)
theorem nu.exit{nt:Nat}{ρ:Option Nat}{id:Nat}{k k':List c7}{todo:List Item}(h:nu P mu nt ρ k todo)(he:kJ id k=some k'):∃todo',exitTo id todo=some todo'∧nu P mu nt ρ k' todo':=by
 induction h with
 |nil=>simp[kJ]at he
 |code h hk ih=>obtain⟨t,h1,h2⟩:=ih (by simpa[kJ]using he);exact⟨t,by simpa[exitTo]using h1,h2⟩
 | @blk i k todo hk ih=>
   simp only[kJ]at he
   split at he
   ·rename_i hi
    simp only[Option.some.injEq]at he
    subst he
    exact⟨_,by simp[exitTo,hi],hk⟩
   ·rename_i hi
    obtain⟨t,h1,h2⟩:=ih he
    exact⟨t,by simpa[exitTo,hi]using h1,h2⟩
 |lp h hk ih=>obtain⟨t,h1,h2⟩:=ih (by simpa[kJ]using he);exact⟨t,by simpa[exitTo]using h1,h2⟩
 |BS h hk ih=>obtain⟨t,h1,h2⟩:=ih (by simpa[kJ]using he);exact⟨t,by simpa[exitTo]using h1,h2⟩
def End(P:Program)(G0:aF)(w0:World)(b:Frame)(cs:List Frame)(ρ:Option Nat)(m:Machine)(r:cZ)(H':Heap):Prop:=
 match ρ with
 |none=>∃e w' fr G',Step G0 w0 G' w'∧bB P G' w' H'∧AR G' w' e r∧Steps P m (lone fr cs w')∧fr.fn=b.fn∧fr.leaving P w' e
 |some _=>match r with
  |.cS _=>∃e w' fr G',Step G0 w0 G' w'∧bB P G' w' H'∧AR G' w' e r∧Steps P m (lone fr cs w')∧fr.fn=b.fn∧fr.leaving P w' e
  |.ret _=>∃a' w' G',Step G0 w0 G' w'∧bB P G' w' H'∧Steps P m (lone (b.atR a' []) cs w')
theorem End.of_steps{G0:aF}{w0:World}{b:Frame}{cs:List Frame}{ρ:Option Nat}{m m1:Machine}{r:cZ}{H':Heap}(hs:Steps P m m1)(h:End P G0 w0 b cs ρ m1 r H'):End P G0 w0 b cs ρ m r H':=by
 cases ρ with
 |none=>
  obtain⟨e,w',fr,G',h1,h2,h3,h4,h5⟩:=h
  exact⟨e,w',fr,G',h1,h2,h3,Steps.trans hs h4,h5⟩
 |some l=>
  cases r with
  |cS v=>
   obtain⟨e,w',fr,G',h1,h2,h3,h4,h5⟩:=h
   exact⟨e,w',fr,G',h1,h2,h3,Steps.trans hs h4,h5⟩
  |ret v=>
   obtain⟨a',w',G',h1,h2,h3⟩:=h
   exact⟨a',w',G',h1,h2,Steps.trans hs h3⟩
theorem dN.keep{n:Nat}{tmps:Array Value}{T:Env}(h:dN G w n tmps T)(hk:pG G w G' w'):dN G' w' n tmps T:=⟨h.size,fun i=>(h.get i).keep hk⟩
theorem tv{G0:aF}{w0:World}{b fr:Frame}{cs:List Frame}{fn:Func}{A:aO}{nt:Nat}{a:Act}{T:Env}{H H':Heap}{r:cZ}(hf:P.funcs[b.fn]?=some fn)(hres:qc P fn.results.toList=some A.results)
 (hT:dN G w nt a.tmps T)(hH:bB P G w H)(hst:Step G0 w0 G w)(hm:Marks w0 w a.defers)(h1:fr.mode=.returning)(h2:fr.tmps=a.tmps)(h3:fr.defers=a.defers)(h4:fr.kind=.normal)(h5:fr.fn=b.fn)
 (h:p7 A T H=some (r,H')):End P G0 w0 b cs none (lone fr cs w) r H':=by
 obtain⟨w',s1,s2,s3,s4⟩:=j9 (cs:=cs) a.defers hst hH hm (by rw[h1];simp) h3
 obtain⟨rfl,v,u,rfl,r1,r2⟩:=II (hT.keep s4) s3 hres h
 exact⟨.returned u,w',_,G,s2,s3,⟨u,rfl,r2⟩,s1,h5,h1,rfl,h4,fn,by rw[h5];exact hf,by rw[h2];exact r1⟩
theorem wM{ρ:Option Nat}{G0:aF}{w0:World}{b fr:Frame}{cs:List Frame}{fn:Func}{df:List Deferred}{H:Heap}{v:AV}{u:Value}(hf:P.funcs[b.fn]?=some fn)(hH:bB P G w H)(hst:Step G0 w0 G w)(hm:Marks w0 w df)
 (hr:bG G w u v)(h1:fr.mode=.panicking [{v:=u,recovered:=false}])(h3:fr.defers=df)(h5:fr.fn=b.fn):End P G0 w0 b cs ρ (lone fr cs w) (.cS v) H:=by
 obtain⟨w',s1,s2,s3,s4⟩:=j9 (cs:=cs) df hst hH hm (by rw[h1];simp) h3
 cases ρ<;>exact⟨.panicked [{v:=u,recovered:=false}],w',_,G,s2,s3,⟨u,rfl,hr.keep s4⟩,s1,h5,h1,rfl,fn,by rw[h5];exact hf⟩
theorem Es{A:aO}{T:Env}{H H':Heap}{r:cZ}(h:p7 A T H=some (r,H')):H'=H∧∃v,r=.ret v:=by
 unfold p7 at h
 split at h<;>simp only[Option.some.injEq,Prod.mk.injEq,reduceCtorEq]at h<;>exact⟨h.2.symm,_,h.1.symm⟩
theorem Step.nv{G2:aF}{w2:World}{s:Nat}(h:Step G w G2 w2)(hs:w.heap.size≤s):Step G w {G2 with nl:=G2.nl+1,ln:=fun k=>if k=G2.nl then s else G2.ln k} w2:=by
 have h0:=h.nl
 refine⟨h.os,h.tape,h.output,h.size,h.lim,h.cell,h.nb,h.hole,h.μ,h.jJ,h.mc,h.nt,h.ext,h.τ,h.mw,h.kH,Nat.le_succ_of_le h.nl,fun k hk=> ?_,fun k k1 k2=> ?_,h.frame⟩
 ·simp only
  rw[if_neg (by omega)]
  exact h.ln k hk
 ·simp only
  split
  ·exact hs
  ·exact h.pF k k1 (by simp only at k2;omega)
theorem bB.nv{H:Heap}{s:Nat}{r:jk}{rec:Loop}(hH:bB P G w H)(h:w.heap[s]?=some (.loop rec))(hne:∀l,l<G.nl→G.ln l≠s)(hr:k5 P {G with nl:=G.nl+1,ln:=fun k=>if k=G.nl then s else G.ln k} w r rec):
 bB P {G with nl:=G.nl+1,ln:=fun k=>if k=G.nl then s else G.ln k} w {H with loops:=H.loops++[r]}:=by
 have hk:pG G w {G with nl:=G.nl+1,ln:=fun k=>if k=G.nl then s else G.ln k} w:=
  ⟨fun _=>Nat.le_refl _,fun _ _ _=>rfl,Nat.le_refl _,fun _ h=>h,fun _ _=>rfl,Nat.le_refl _,fun _ _=>Nat.le_refl _,fun _ _ _=>⟨rfl,rfl⟩,fun _ _=>rfl,Nat.le_succ _,fun k hk=>if_neg (by omega),fun _ _=>rfl⟩
 have el:=hH.nl
 refine⟨hH.base,hH.nb,hH.nt,by simp[hH.nl],fun k hk' hh=> ?_,hH.fI,hH.gw,hH.tok,hH.gR,hH.jF,fun l hl=> ?_,fun i j hi hj e=> ?_,fun sp hs g hg=>by
  obtain⟨⟨g1,g2,g3⟩,cs,e,m,g4,g5⟩:=hH.j5 sp hs g hg
  refine⟨⟨g1,g2,fun l hl he=> ?_⟩,cs,e,m,g4,g5⟩
  simp only at he
  split at he
  ·rw[he,h]at g4;cases g4
  ·exact g3 l (by simp only at hl;omega) he⟩
 ·obtain⟨us,e,a1,a2,a3⟩:=hH.box k hk' hh
  exact⟨us,e,a1,a2,fun i i1 i2=>(a3 i i1 i2).keep hk⟩
 ·by_cases hlt:l<H.loops.length
  ·obtain⟨mJ,a1,a2⟩:=hH.loop l hlt
   refine⟨mJ,?_,?_⟩
   ·simp only;rw[if_neg (by omega)];exact a1
   ·simp only[List.getElem_append_left hlt];exact a2.keep hk
  ·have:l=G.nl:=by simp at hl;omega
   subst this
   refine⟨rec,by simp only[if_true];exact h,?_⟩
   have:(H.loops++[r])[G.nl]'hl=r:=by simp[el]
   simp only[this]
   exact hr
 ·simp only at hi hj e
  split at e
  ·split at e
   ·omega
   ·exact absurd e.symm (hne j (by omega))
  ·split at e
   ·exact absurd e (hne i (by omega))
   ·exact hH.kQ i j (by omega) (by omega) e
theorem kR{b:Frame}{a:Act}{k:List Item}{cs:List Frame}{g:Operand}{ps:Array Tmp}{assign body:Code}{l:Nat}{mark:List Deferred}{w₁ w₁' w₂:World}{d:Deferred}{v:Value}
 (he:(Instr.enterLoop b.fn a.tmps ps assign body b.roundOf).run P w=.ok (l,mark) w₁)
 (hres:(resolve a.eval (rangeCall g l) 0).run P w₁=.ok d w₁')(hinv:(invoke d.target d.args).run P w₁'=.ok (.value v) w₂):
 step P (lone (b.atR a (.code (.rangeFunc g ps assign body)::k)) cs w)=.next (lone ((b.atR {a with defers:=mark++a.defers} (.inRangeFunc l::k)).finish v) cs w₂):=
 step_lone_go (by
  have DP:=Frame.eval_atR b {a with defers:=mark++a.defers} (.inRangeFunc l::k)
  simp only[Frame.atR]at DP
  have OY:Sem.run P (resolve ({tmps:=a.tmps,defers:=mark++a.defers}:Act).eval {callee:=.value g,args:= #[.const (.func (.yield l) #[] #[])],argTypes:= #[]} 0) w₁=.ok d w₁':=hres
  simp[stepG,stepG.exec,Frame.atR,Sem.runT_eq,he,GStep.bare_after,stepG.apply,DP,Sem.run_bind,OY,hinv,Result.andThen])
theorem wN{call:bL}(hc:cX P call){nt:Nat}{b:Frame}{a:Act}{T:Env}{H H4:Heap}{A:aO}{g:Operand}{go:dX}{ps:Array Tmp}{assign body:Code}{aa ab:aD}(hro:b.roundOf=none)
 (hf:∃fn,P.funcs[b.fn]?=some fn)(hT:dN G w nt a.tmps T)(hH:bB P G w H)(hg:dz g=some go)(ha:eB P mu nt assign=some aa)(hb:eB P mu nt body=some ab)(hps:ps.toList.all (fun d=>decide (d<nt))=true)
 {v4:AV}(h:gz call (ev T go) A T ps.toList aa ab H=some (.val v4 H4))(cs:List Frame)(k:List Item):
 ∃w' G' m,Steps P (lone (b.atR a (.code (.rangeFunc g ps assign body)::k)) cs w) (lone (b.atR {a with defers:={target:=.collected m,args:= #[]}::a.defers} k) cs w')∧Step G w G' w'∧bB P G' w' H4∧w.heap.size≤m∧
  w'.heap[m]?=some (.deferred (some [])):=by
 obtain⟨f,caps,DP,hh⟩:=jY h
 rcases hh with⟨v,H3,_,dh,h,L0⟩|⟨v,H3,_,dh,_,_,L0⟩
 ·cases L0
  have rg:=bD (a:=a) hT hg
  rw[DP]at rg
  generalize hu:a.eval g=u at rg
  cases rg with
  |func _ us _ hn hr=>
  have he:=run_enterLoop_outer (P:=P) (w:=w) b.fn a.tmps ps assign body
  rw[←hro]at he
  let mJ:Loop:={state:=.ready,pending:=none,fn:=b.fn,tmps:=a.tmps,params:=ps,assign:=assign,body:=body,defers:=w.heap.size}
  let w1:World:=(w.alloc (.deferred (some []))).alloc (.loop mJ)
  let Ga:aF:=(G.set w.heap.size 0).set (w.alloc (.deferred (some []))).heap.size 0
  have g1:Grow G w (G.set w.heap.size 0) (w.alloc (.deferred (some []))):=.alloc hH.base _ _
  have g2:Grow (G.set w.heap.size 0) (w.alloc (.deferred (some []))) Ga w1:=.alloc g1.base _ _
  have gg:Grow G w Ga w1:=g1.trans g2
  have OZ:bB P Ga w1 H:=hH.grow gg
  have L4:=gg.step hH.base
  let s:Nat:=w.heap.size+1
  have Sb:Ga.nl=G.nl:=rfl
  let Gb:aF:={Ga with nl:=Ga.nl+1,ln:=fun k=>if k=Ga.nl then s else Ga.ln k}
  have y4:Step G w Gb w1:=L4.nv (by simp[s])
  have Et:w1.heap[s]?=some (.loop mJ):=by
   have:=World.alloc_heap_new (w.alloc (.deferred (some []))) (.loop mJ)
   simpa[w1,s]using this
  have Eu:w1.heap[w.heap.size]?=some (.deferred (some [])):=by
   have h1:=World.alloc_heap_new w (.deferred (some []))
   have h2:=Below.heap_alloc (w.alloc (.deferred (some []))) (.loop mJ) w.heap.size (by simp)
   show w1.heap[w.heap.size]?=_
   rw[h2];exact h1
  let r:jk:=⟨A,T,ps.toList,aa,ab,false,H.boxes.length,H.toks.length,H.loops.length⟩
  have hlr:k5 P Gb w1 r mJ:=by
   refine⟨fun _=>rfl,rfl,rfl,hf,⟨?_,?_,?_,fun i=> ?_⟩,mu,nt,hT.step y4,hps,ha,hb⟩
   ·show H.boxes.length≤G.nb
    rw[hH.nb];exact Nat.le_refl _
   ·show H.toks.length≤G.nt
    rw[hH.nt];exact Nat.le_refl _
   ·show H.loops.length≤G.nl+1
    rw[hH.nl];exact Nat.le_succ _
   ·have:=(hT.get i).fits
    rw[hH.nb,hH.nt,hH.nl]at this
    exact this
  have O0:bB P Gb w1 {H with loops:=H.loops++[r]}:=OZ.nv Et (fun l hl e=>by
   have:=OZ.vY hl
   have h2:=hH.vY (l:=l) hl
   have e2:Ga.ln l=G.ln l:=rfl
   rw[e2]at e
   simp only[s]at e
   omega) hlr
  have hargs:fk Gb w1 (#[.func (.yield s) #[] #[]]++us) ([AV.yield H.loops.length]++caps):=by
   refine fk.append (us:= #[.func (.yield s) #[] #[]]) (az:=[AV.yield H.loops.length]) ⟨rfl,fun i h1 h2=> ?_⟩ (fk.step ⟨hn,hr⟩ y4)
   have:i=0:=by simp at h1;omega
   subst this
   have e2:Gb.ln H.loops.length=s:=by
    show(if H.loops.length=G.nl then s else G.ln H.loops.length)=s
    rw[if_pos hH.nl.symm]
   have:=bG.yield (G:=Gb) (w:=w1) H.loops.length (by show H.loops.length<G.nl+1;rw[hH.nl];exact Nat.lt_succ_self _)
   rw[e2]at this
   exact this
  have hnd:(([AV.yield H.loops.length]:List AV).all bK&&caps.all bI)=false:=by simp[bK,fH,sJ,bI]
  unfold en at dh
  simp only[hnd,Bool.false_eq_true,if_false,eD]at dh
  split at dh<;>simp only[Option.some.injEq,reduceCtorEq,Out.val.injEq]at dh
  rename_i v0 H2 hrun
  obtain⟨rfl,rfl⟩:=dh
  have r6:=hc.fn f _ _ _ _ hrun Gb w1 _ O0 hargs
  have hres:(resolve a.eval (rangeCall g s) 0).run P w1=.ok {target:=.fn (.func f) us,args:= #[.func (.yield s) #[] #[]]} w1:=by
   have e1:(rangeCall g s).args.map a.eval= #[Value.func (.yield s) #[] #[]]:=by simp[rangeCall,Act.eval]
   unfold resolve
   simp only[e1]
   show(Deferred.ofValue (a.eval g) #[Value.func (.yield s) #[] #[]]).run P w1=_
   rw[hu]
   rfl
  have hinv:(invoke (.fn (.func f) us) #[.func (.yield s) #[] #[]])=callFunc f (#[.func (.yield s) #[] #[]]++us):=rfl
  have fin:∀(u0:Value)(w2:World),gD P Gb w1 (.ret v0) H2 (.returned u0) w2→
   ∃w' G',step P (lone (b.atR {a with defers:={target:=.collected w.heap.size,args:= #[]}::a.defers} (.endRangeFunc s::k)) cs w2)=.next (lone (b.atR {a with defers:={target:=.collected w.heap.size,args:= #[]}::a.defers} k) cs w')∧
    Step G w G' w'∧bB P G' w' H4∧w'.heap[w.heap.size]?=some (.deferred (some [])):=by
   intro u0 w2 hpost
   obtain⟨G2,k1,k2,u',e1,e2⟩:=hpost
   obtain⟨G3,t1,t2,_⟩:=fP k1 k2 e2.shut
   have Iw:Gb.nb=H.boxes.length:=hH.nb
   have LM:Gb.nt=H.toks.length:=hH.nt
   rw[Iw,LM]at t2
   generalize de H.boxes.length H.toks.length (bz v0) H2=H3 at h t2
   unfold AI at h
   split at h
   ·rename_i r3 Xx
    split at h<;>simp only[Option.some.injEq,reduceCtorEq]at h
    rename_i k7
    obtain⟨Ev,hlo,LV⟩:=k7
    subst h
    obtain⟨hlt3,Td⟩:=List.getElem?_eq_some_iff.1 Xx
    obtain⟨O1,j1,j2⟩:=t2.loop _ hlt3
    rw[Td]at j2
    have DL:G3.ln H.loops.length=s:=by
     rw[t1.ln _ (show H.loops.length<G.nl+1 by rw[hH.nl];exact Nat.lt_succ_self _)]
     show(if H.loops.length=G.nl then s else G.ln H.loops.length)=s
     rw[if_pos hH.nl.symm]
    rw[DL]at j1
    have hend:(Instr.endLoop s).run P w2=.ok none (w2.putObj s (.loop {O1 with state:=.exhausted,pending:=none})):=by
     have:=run_endLoop (P:=P) j1 (by rw[j2.ready Ev];simp)
     rw[j2.pending]at this
     exact this
    have y5:Step G w G3 w2:=y4.trans t1
    have O2:H.loops.length≤G3.nl:=by rw[t2.nl];exact Nat.le_of_lt hlt3
    have L5:bB P (G3.cut G3.nb G3.nt G.nl) w2 {H3 with loops:=H3.loops.take H.loops.length}:=by
     have:=t2.cut (nb:=G3.nb) (nt:=G3.nt) (nl:=G.nl) (Nat.le_refl _) (Nat.le_refl _) (by rw[hH.nl];exact O2) (fun cs' k6 x hx v' Oq=>by
      have:=List.all_eq_true.1 (List.all_eq_true.1 LV _ (List.mem_of_mem_take k6)) x hx
      rw[←t2.nb,←t2.nt]at this
      exact iV Oq this) (fun r' hr'=>by
      have hr2:r'∈H3.loops.take H.loops.length:=by rw[←hH.nl];exact hr'
      have h3:=List.all_eq_true.1 hlo _ hr2
      obtain⟨l',hl',rfl⟩:=List.getElem_of_mem (List.mem_of_mem_take hr2)
      obtain⟨y2,_,a2⟩:=t2.loop l' hl'
      exact⟨a2.fits.1,a2.fits.2.1,by rw[hH.nl];simpa using h3⟩)
     rw[t2.nb,t2.nt,iW,iW,hH.nl]at this
     rw[t2.nb,t2.nt,hH.nl]
     exact this
    have qj:Step G w (G3.cut G3.nb G3.nt G.nl) w2:=y5.cut y5.nb (Nat.le_refl _) y5.nt (Nat.le_refl _) (Nat.le_refl _) (by rw[hH.nl];exact O2)
    refine⟨_,_,?_,qj.putObj (o2:=.loop {O1 with state:=.exhausted,pending:=none}) j1 trivial trivial (.inl (by simp[s])),L5.putObj j1 trivial trivial fun l hl e=> ?_,?_⟩
    ·have:=stepR_endRangeFunc (P:=P) (b:=b) (a:={a with defers:={target:=.collected w.heap.size,args:= #[]}::a.defers}) (k:=k) (cs:=cs) hend
     simpa using this
    ·have hl':l<G.nl:=hl
     have e':G3.ln l=s:=e.symm
     rw[←DL]at e'
     have:=t2.kQ l H.loops.length (by rw[hH.nl]at hl';omega) (by rw[t2.nl];exact hlt3) e'
     rw[hH.nl]at hl'
     omega
    ·rw[World.putObj_heap_other (by simp[s])]
     have Te:Marks w w1 [{target:=.collected w.heap.size,args:= #[]}]:=
      ⟨fun d hd=>by simp only[List.mem_singleton]at hd;subst hd;exact⟨_,rfl,Nat.le_refl _,Eu⟩,by simp⟩
     obtain⟨m',hm2,_,Tf⟩:=(Te.step O0 t1).mark {target:=.collected w.heap.size,args:= #[]} (by simp)
     injection hm2 with hm2
     rw[hm2];exact Tf
   ·cases h
  rcases r6 with⟨Xy,c1,c2,rfl⟩|⟨u0,w2,c1,c2⟩
  ·obtain⟨e,w2,fr,d1,d2,d3,d4⟩:=c2 (b.atR {a with defers:=[{target:=.collected w.heap.size,args:= #[]}]++a.defers} (.inRangeFunc s::k)::cs)
   have mL:=stepR_rangeFunc (P:=P) (b:=b) (a:=a) (k:=k) (cs:=cs) (w:=w) he hres (by rw[hinv];exact c1)
   cases e with
   |outgrown=>exact absurd d1 dI
   |panicked ch=>obtain⟨_,_,_,u',h',_⟩:=d1;cases h'
   |returned u0=>
    obtain⟨w',G',f1,f2,f3,f4⟩:=fin u0 w2 d1
    refine⟨w',G',w.heap.size,.head mL (Steps.trans d2 (.head (step_leave_returned d4) ?_)),f2,f3,Nat.le_refl _,f4⟩
    rw[finish_atR_inRangeFunc]
    exact .one f1
  ·have mL:=kR (P:=P) (b:=b) (a:=a) (k:=k) (cs:=cs) (w:=w) he hres (by rw[hinv];exact c1)
   obtain⟨w',G',f1,f2,f3,f4⟩:=fin u0 w2 c2
   refine⟨w',G',w.heap.size,.head mL ?_,f2,f3,Nat.le_refl _,f4⟩
   rw[finish_atR_inRangeFunc]
   exact .one f1
 ·cases L0
theorem uI{call:bL}(hc:cX P call){nt:Nat}{b:Frame}{a:Act}{T:Env}{H H4:Heap}{A:aO}{g:Operand}{go:dX}{ps:Array Tmp}{assign body:Code}{aa ab:aD}(hro:b.roundOf=none)
 (hf:∃fn,P.funcs[b.fn]?=some fn)(hT:dN G w nt a.tmps T)(hH:bB P G w H)(hg:dz g=some go)(ha:eB P mu nt assign=some aa)(hb:eB P mu nt body=some ab)(hps:ps.toList.all (fun d=>decide (d<nt))=true)
 {v4:AV}(h:gz call (ev T go) A T ps.toList aa ab H=some (.cS v4 H4))(cs:List Frame)(k:List Item):
 ∃w' G' m u todo',Steps P (lone (b.atR a (.code (.rangeFunc g ps assign body)::k)) cs w) (lone {b.atR {a with defers:={target:=.collected m,args:= #[]}::a.defers} todo' with mode:=.panicking [{v:=u,recovered:=false}]} cs w')∧Step G w G' w'∧bB P G' w' H4∧
  bG G' w' u v4∧w.heap.size≤m∧w'.heap[m]?=some (.deferred (some [])):=by
 obtain⟨f,caps,DP,hh⟩:=jY h
 rcases hh with⟨v,H3,_,dh,_,L0⟩|⟨v,H3,_,dh,oh,h,L0⟩
 ·cases L0
 ·cases L0
  have rg:=bD (a:=a) hT hg
  rw[DP]at rg
  generalize hu:a.eval g=u at rg
  cases rg with
  |func _ us _ hn hr=>
  have he:=run_enterLoop_outer (P:=P) (w:=w) b.fn a.tmps ps assign body
  rw[←hro]at he
  let mJ:Loop:={state:=.ready,pending:=none,fn:=b.fn,tmps:=a.tmps,params:=ps,assign:=assign,body:=body,defers:=w.heap.size}
  let w1:World:=(w.alloc (.deferred (some []))).alloc (.loop mJ)
  let Ga:aF:=(G.set w.heap.size 0).set (w.alloc (.deferred (some []))).heap.size 0
  have g1:Grow G w (G.set w.heap.size 0) (w.alloc (.deferred (some []))):=.alloc hH.base _ _
  have g2:Grow (G.set w.heap.size 0) (w.alloc (.deferred (some []))) Ga w1:=.alloc g1.base _ _
  have gg:Grow G w Ga w1:=g1.trans g2
  have OZ:bB P Ga w1 H:=hH.grow gg
  have L4:=gg.step hH.base
  let s:Nat:=w.heap.size+1
  have Sb:Ga.nl=G.nl:=rfl
  let Gb:aF:={Ga with nl:=Ga.nl+1,ln:=fun k=>if k=Ga.nl then s else Ga.ln k}
  have y4:Step G w Gb w1:=L4.nv (by simp[s])
  have Et:w1.heap[s]?=some (.loop mJ):=by
   have:=World.alloc_heap_new (w.alloc (.deferred (some []))) (.loop mJ)
   simpa[w1,s]using this
  have Eu:w1.heap[w.heap.size]?=some (.deferred (some [])):=by
   have h1:=World.alloc_heap_new w (.deferred (some []))
   have h2:=Below.heap_alloc (w.alloc (.deferred (some []))) (.loop mJ) w.heap.size (by simp)
   show w1.heap[w.heap.size]?=_
   rw[h2];exact h1
  let r:jk:=⟨A,T,ps.toList,aa,ab,false,H.boxes.length,H.toks.length,H.loops.length⟩
  have hlr:k5 P Gb w1 r mJ:=by
   refine⟨fun _=>rfl,rfl,rfl,hf,⟨?_,?_,?_,fun i=> ?_⟩,mu,nt,hT.step y4,hps,ha,hb⟩
   ·show H.boxes.length≤G.nb
    rw[hH.nb];exact Nat.le_refl _
   ·show H.toks.length≤G.nt
    rw[hH.nt];exact Nat.le_refl _
   ·show H.loops.length≤G.nl+1
    rw[hH.nl];exact Nat.le_succ _
   ·have:=(hT.get i).fits
    rw[hH.nb,hH.nt,hH.nl]at this
    exact this
  have O0:bB P Gb w1 {H with loops:=H.loops++[r]}:=OZ.nv Et (fun l hl e=>by
   have:=OZ.vY hl
   have h2:=hH.vY (l:=l) hl
   have e2:Ga.ln l=G.ln l:=rfl
   rw[e2]at e
   simp only[s]at e
   omega) hlr
  have hargs:fk Gb w1 (#[.func (.yield s) #[] #[]]++us) ([AV.yield H.loops.length]++caps):=by
   refine fk.append (us:= #[.func (.yield s) #[] #[]]) (az:=[AV.yield H.loops.length]) ⟨rfl,fun i h1 h2=> ?_⟩ (fk.step ⟨hn,hr⟩ y4)
   have:i=0:=by simp at h1;omega
   subst this
   have e2:Gb.ln H.loops.length=s:=by
    show(if H.loops.length=G.nl then s else G.ln H.loops.length)=s
    rw[if_pos hH.nl.symm]
   have:=bG.yield (G:=Gb) (w:=w1) H.loops.length (by show H.loops.length<G.nl+1;rw[hH.nl];exact Nat.lt_succ_self _)
   rw[e2]at this
   exact this
  have hnd:(([AV.yield H.loops.length]:List AV).all bK&&caps.all bI)=false:=by simp[bK,fH,sJ,bI]
  unfold en at dh
  simp only[hnd,Bool.false_eq_true,if_false,eD]at dh
  split at dh<;>simp only[Option.some.injEq,reduceCtorEq,Out.cS.injEq]at dh
  rename_i v0 H2 hrun
  obtain⟨rfl,rfl⟩:=dh
  have r6:=hc.fn f _ _ _ _ hrun Gb w1 _ O0 hargs
  have hres:(resolve a.eval (rangeCall g s) 0).run P w1=.ok {target:=.fn (.func f) us,args:= #[.func (.yield s) #[] #[]]} w1:=by
   have e1:(rangeCall g s).args.map a.eval= #[Value.func (.yield s) #[] #[]]:=by simp[rangeCall,Act.eval]
   unfold resolve
   simp only[e1]
   show(Deferred.ofValue (a.eval g) #[Value.func (.yield s) #[] #[]]).run P w1=_
   rw[hu]
   rfl
  have hinv:(invoke (.fn (.func f) us) #[.func (.yield s) #[] #[]])=callFunc f (#[.func (.yield s) #[] #[]]++us):=rfl
  have fin:∀(e0:Ending)(w2:World),gD P Gb w1 (.cS v0) H2 e0 w2→∃u G',e0=.panicked [{v:=u,recovered:=false}]∧Step G w G' w2∧bB P G' w2 H4∧bG G' w2 u v0∧w2.heap[w.heap.size]?=some (.deferred (some [])):=by
   intro e0 w2 hpost
   obtain⟨G2,k1,k2,u',e1,e2⟩:=hpost
   obtain⟨G3,t1,t2,t3⟩:=fP k1 k2 e2
   have Iw:Gb.nb=H.boxes.length:=hH.nb
   have LM:Gb.nt=H.toks.length:=hH.nt
   rw[Iw,LM]at t2
   generalize de H.boxes.length H.toks.length v0 H2=H3 at h t2
   unfold AJ at h
   split at h<;>simp only[Option.some.injEq,reduceCtorEq]at h
   rename_i k7
   obtain⟨hlt3,hlo,LV⟩:=k7
   subst h
   have y5:Step G w G3 w2:=y4.trans t1
   have O2:H.loops.length≤G3.nl:=by rw[t2.nl];exact Nat.le_of_lt hlt3
   have L5:bB P (G3.cut G3.nb G3.nt G.nl) w2 {H3 with loops:=H3.loops.take H.loops.length}:=by
    have:=t2.cut (nb:=G3.nb) (nt:=G3.nt) (nl:=G.nl) (Nat.le_refl _) (Nat.le_refl _) (by rw[hH.nl];exact O2) (fun cs' k6 x hx v' Oq=>by
     have:=List.all_eq_true.1 (List.all_eq_true.1 LV _ (List.mem_of_mem_take k6)) x hx
     rw[←t2.nb,←t2.nt]at this
     exact iV Oq this) (fun r' hr'=>by
     have hr2:r'∈H3.loops.take H.loops.length:=by rw[←hH.nl];exact hr'
     have h3:=List.all_eq_true.1 hlo _ hr2
     obtain⟨l',hl',rfl⟩:=List.getElem_of_mem (List.mem_of_mem_take hr2)
     obtain⟨y2,_,a2⟩:=t2.loop l' hl'
     exact⟨a2.fits.1,a2.fits.2.1,by rw[hH.nl];simpa using h3⟩)
    rw[t2.nb,t2.nt,iW,iW,hH.nl]at this
    rw[t2.nb,t2.nt,hH.nl]
    exact this
   have qj:Step G w (G3.cut G3.nb G3.nt G.nl) w2:=y5.cut y5.nb (Nat.le_refl _) y5.nt (Nat.le_refl _) (Nat.le_refl _) (by rw[hH.nl];exact O2)
   refine⟨u',_,e1,qj,L5,t3.data (e8 oh t3) (fun _=>Nat.le_refl _),?_⟩
   have Te:Marks w w1 [{target:=.collected w.heap.size,args:= #[]}]:=
    ⟨fun d hd=>by simp only[List.mem_singleton]at hd;subst hd;exact⟨_,rfl,Nat.le_refl _,Eu⟩,by simp⟩
   obtain⟨m',hm2,_,Tf⟩:=(Te.step O0 t1).mark {target:=.collected w.heap.size,args:= #[]} (by simp)
   injection hm2 with hm2
   rw[hm2];exact Tf
  rcases r6 with⟨Xy,c1,c2,rfl⟩|⟨u0,w2,c1,c2⟩
  ·obtain⟨e,w2,fr,d1,d2,d3,d4⟩:=c2 (b.atR {a with defers:=[{target:=.collected w.heap.size,args:= #[]}]++a.defers} (.inRangeFunc s::k)::cs)
   have mL:=stepR_rangeFunc (P:=P) (b:=b) (a:=a) (k:=k) (cs:=cs) (w:=w) he hres (by rw[hinv];exact c1)
   obtain⟨u',G',rfl,f1,f2,f3,f4⟩:=fin e w2 d1
   exact⟨w2,G',w.heap.size,u',_,.head mL (Steps.trans d2 (.one (step_leave_panicked d4))),f1,f2,f3,Nat.le_refl _,f4⟩
  ·obtain⟨u',G',h',_⟩:=fin _ _ c2
   cases h'
end Go.Aa
namespace Go.Aa
open Go.RowKit
variable{P:Program}{G G':aF}{w w':World}
variable{mu:Bool}
theorem uJ{call:bL}(hc:cX P call)(y6:P.follows .mixedOrders=true){A:aO}{ρ:Option Nat}{nt:Nat}{G0:aF}{w0:World}{b:Frame}{fn:Func}(hfn:P.funcs[b.fn]?=some fn)
 (hres:ρ=none→qc P fn.results.toList=some A.results)(hA:A.round=ρ.isSome)(KN:b.kind=.normal){cs:List Frame}:
 ∀(n:Nat)(k:List c7)(T:Env)(H:Heap)(r:cZ)(H':Heap),run call A n k T H=some (r,H')→∀(G:aF)(w:World)(a:Act)(todo:List Item),b.roundOf=ρ.map G.ln→(∀l,ρ=some l→l<G.nl)→
  nu P mu nt ρ k todo→dN G w nt a.tmps T→bB P G w H→Step G0 w0 G w→Marks w0 w a.defers→End P G0 w0 b cs ρ (lone (b.atR a todo) cs w) r H':=by
 intro n
 induction n with
 |zero=>intro k T H r H' h;cases k<;>simp[run]at h
 |succ n ih=>
  intro k T H r H' h G w a todo hro hl hk hT hH hst hm
  have next:∀{G':aF}{w':World}{a':Act}{k':List c7}{todo':List Item}{T':Env}{H1:Heap},run call A n k' T' H1=some (r,H')→Steps P (lone (b.atR a todo) cs w) (lone (b.atR a' todo') cs w')→Step G w G' w'→
   nu P mu nt ρ k' todo'→dN G' w' nt a'.tmps T'→bB P G' w' H1→Marks w0 w' a'.defers→End P G0 w0 b cs ρ (lone (b.atR a todo) cs w) r H':=by
   intro G' w' a' k' todo' T' H1 h1 h2 h3 h4 h5 h6 h7
   refine(ih _ _ _ _ _ h1 G' w' a' todo' ?_ (fun l e=>Nat.lt_of_lt_of_le (hl l e) h3.nl) h4 h5 h6 (hst.trans h3) h7).of_steps h2
   rw[hro]
   cases ρ with
   |none=>rfl
   |some l=>simp[h3.ln l (hl l rfl)]
  cases hk with
  |nil=>
   cases ρ with
   |none=>
    have hs:step P (lone (b.atR a []) cs w)=.next (lone {b.atR a []with mode:=.returning} cs w):=stepR_end (by rw[hro];rfl)
    exact(tv (fr:={b.atR a []with mode:=.returning}) hfn (hres rfl) hT hH hst hm rfl rfl rfl KN rfl h).of_steps (.one hs)
   |some l=>
    obtain⟨rfl,v,rfl⟩:=Es h
    exact⟨a,w,G,hst,hH,.refl _ _⟩
  |blk hk=>exact next h (.one stepR_inBlock) (.refl _ _) hk hT hH hm
  |lp KM hk=>exact next h (.one stepR_inLoop) (.refl _ _) (.code KM (.lp KM hk)) hT hH hm
  | @BS l k todo he hk=>
    simp only[run]at h
    split at h
    ·rename_i r0 Ii
     split at h
     ·cases h
     ·rename_i Ev
      have hlt:=hl l he
      obtain⟨KH,Tg⟩:=List.getElem?_eq_some_iff.1 Ii
      obtain⟨rec,j1,j2⟩:=hH.loop l KH
      rw[Tg]at j2
      have L6:=j2.ready (by simpa using Ev)
      have hrb:b.roundOf=some (G.ln l):=by rw[hro,he];rfl
      have hs:=stepR_beginRound (P:=P) (b:=b) (a:=a) (k:=todo) (cs:=cs) hrb (run_beginRound j1 L6)
      have hlr:k5 P G w {r0 with busy:=true} {rec with state:=.busy}:=⟨fun h=>(by cases h),j2.pending,j2.ps,j2.fn,j2.fits,j2.body⟩
      have O3:Step G w G (w.putObj (G.ln l) (.loop {rec with state:=.busy})):=(Step.refl G w).putObj j1 trivial trivial (.inr ⟨l,hlt,rfl⟩)
      exact next h (.one hs) O3 hk (hT.step O3) (hH.AX hlt j1 hlr) (hm.put j1 fun x=>by simp)
    ·cases h
  | @code c ac k todo kL hk=>
    cases c with
    |skip=>
     simp only[eB,Option.some.injEq]at kL
     subst kL
     exact next h (.one stepR_skip) (.refl _ _) hk hT hH hm
    |seq x y=>
     simp only[eB]at kL
     split at kL<;>simp only[Option.some.injEq,reduceCtorEq]at kL
     rename_i h1 h2
     subst kL
     exact next h (.one stepR_seq) (.refl _ _) (.code h1 (.code h2 hk)) hT hH hm
    |cond x y z=>
     simp only[eB]at kL
     split at kL<;>simp only[Option.some.injEq,reduceCtorEq]at kL
     rename_i hx h1 h2
     subst kL
     simp only[run]at h
     split at h
     ·rename_i t ht
      have rx:=bD (a:=a) hT hx
      rw[ht]at rx
      have hv:a.eval x=.bool t:=by
       generalize a.eval x=u at rx
       cases rx;rfl
      refine next h (.one (stepR_cond hv)) (.refl _ _) (.code ?_ hk) hT hH hm
      cases t
      ·exact h2
      ·exact h1
     ·cases h
    |block id c=>
     simp only[eB,Option.map_eq_some_iff]at kL
     obtain⟨Xz,h1,rfl⟩:=kL
     exact next h (.one stepR_block) (.refl _ _) (.code h1 (.blk hk)) hT hH hm
    |loop c=>
     simp only[eB,Option.map_eq_some_iff]at kL
     obtain⟨Xz,h1,rfl⟩:=kL
     exact next h (.one stepR_loop) (.refl _ _) (.code h1 (.lp h1 hk)) hT hH hm
    |exit id=>
     simp only[eB,Option.some.injEq]at kL
     subst kL
     simp only[run]at h
     split at h
     ·rename_i k' hk'
      obtain⟨todo',h1,h2⟩:=hk.exit hk'
      exact next h (.one (stepR_exit h1)) (.refl _ _) h2 hT hH hm
     ·cases h
    |ret=>
     simp only[eB,Option.some.injEq]at kL
     subst kL
     simp only[run]at h
     split at h
     ·cases h
     ·rename_i hrd
      cases ρ with
      |some l=>rw[hA]at hrd;simp at hrd
      |none=>
       have hs:step P (lone (b.atR a (.code .ret::todo)) cs w)=.next (lone {b.atR a (.code .ret::todo)with mode:=.returning} cs w):=stepR_ret (by rw[hro];rfl)
       exact(tv (fr:={b.atR a (.code .ret::todo)with mode:=.returning}) hfn (hres rfl) hT hH hst hm rfl rfl rfl KN rfl h).of_steps (.one hs)
    |region id ops draw=>
     simp only[eB]at kL
     split at kL
     ·rename_i az has
      split at kL<;>simp only[Option.some.injEq,reduceCtorEq]at kL
      rename_i hok
      subst kL
      have Th:draw=true→j0 az=true:=fun hd=>by
       cases XA:j0 az with
       |true=>rfl
       |false=>exact absurd ⟨hd,XA⟩ hok
      simp only[run]at h
      have O4:dK call draw (if draw=true then az else az.map aK.bare) T H=dK call draw az T H:=by
       cases draw with
       |true=>rfl
       |false=>simpa[dK]using lf az T H
      rw[O4]at h
      have hwp:∀out,dK call draw az T H=some out→∃e a' w',jx P G w nt a.defers out e a' w'∧ArrivesIn (Machine.fenced P (W b.roundOf)) P (lone (b.atR a (.code (.region id ops draw)::todo)) cs w) b todo cs e a' w':=
       fun out ho=>uH hc y6 has Th (ro:=b.roundOf) hT hH ho b todo cs rfl trivial (fun d hd=>by simp[W,Fence.wide]at hd)
      split at h
      ·rename_i T' H1 ho
       obtain⟨e,a',w',hq,L7⟩:=hwp _ ho
       cases e with
       |normal=>
        obtain⟨G',T2,H2,e1,e2,e3,e4,e5⟩:=hq
        cases e1
        exact next h L7.steps e2 hk e3 e4 (by rw[e5];exact hm.step hH e2)
       |panic ch=>obtain⟨_,_,_,_,_,e1,_⟩:=hq;cases e1
       |_=>exact hq.elim
      ·rename_i v H1 ho
       simp only[Option.some.injEq,Prod.mk.injEq]at h
       obtain⟨rfl,rfl⟩:=h
       obtain⟨e,a',w',hq,L7⟩:=hwp _ ho
       cases e with
       |normal=>obtain⟨_,_,_,e1,_⟩:=hq;cases e1
       |panic ch=>
        obtain⟨u,v',H2,G',rfl,e1,e2,e3,e4,e5⟩:=hq
        cases e1
        obtain⟨todo',hs⟩:=L7
        exact(wM (fr:={b.atR a' todo' with mode:=.panicking [{v:=u,recovered:=false}]}) hfn e3 (hst.trans e2) (hm.step hH e2) e4 rfl e5 rfl).of_steps hs.steps
       |_=>exact hq.elim
      ·cases h
     ·cases kL
    |rangeFunc g ps x y=>
     simp only[eB]at kL
     split at kL<;>try(simp at kL;done)
     rename_i go aa ab hg ha hb
     split at kL<;>simp only[Option.some.injEq,reduceCtorEq]at kL
     rename_i hps
     subst kL
     simp only[run]at h
     split at h
     ·cases h
     ·rename_i hrd
      cases ρ with
      |some l=>rw[hA]at hrd;simp at hrd
      |none=>
       have hmk:∀{G':aF}{w':World}{m:Nat},Step G w G' w'→w.heap.size≤m→w'.heap[m]?=some (.deferred (some []))→Marks w0 w' ({target:=.collected m,args:= #[]}::a.defers):=by
        intro G' w' m s2 s4 s5
        have hm':=hm.step hH s2
        refine⟨fun d hd=> ?_,List.pairwise_cons.2 ⟨fun d hd b0 hb0 he=> ?_,hm.apart⟩⟩
        ·rcases List.mem_cons.1 hd with rfl|hd
         ·exact⟨m,rfl,Nat.le_trans hst.size s4,s5⟩
         ·exact hm'.mark d hd
        ·obtain⟨b1,h1,h2,h3⟩:=hm.mark d hd
         rw[he]at h1
         injection h1 with h1
         injection hb0 with hb0
         have:=(Array.getElem?_eq_some_iff.1 h3).1
         omega
       split at h
       ·rename_i v4 H4 Ti
        obtain⟨w',G',m,s1,s2,s3,s4,s5⟩:=wN hc (by rw[hro];rfl) ⟨fn,hfn⟩ hT hH hg ha hb hps Ti cs todo
        exact next (a':={a with defers:={target:=.collected m,args:= #[]}::a.defers}) h s1 s2 hk (hT.step s2) s3 (hmk s2 s4 s5)
       ·rename_i v4 H4 Ti
        simp only[Option.some.injEq,Prod.mk.injEq]at h
        obtain⟨rfl,rfl⟩:=h
        obtain⟨w',G',m,u,todo',s1,s2,s3,s6,s4,s5⟩:=uI hc (by rw[hro];rfl) ⟨fn,hfn⟩ hT hH hg ha hb hps Ti cs todo
        exact(wM (fr:={b.atR {a with defers:={target:=.collected m,args:= #[]}::a.defers} todo' with mode:=.panicking [{v:=u,recovered:=false}]}) hfn s3 (hst.trans s2) (hmk s2 s4 s5) s6 rfl rfl rfl).of_steps s1
       ·cases h
    |_=>simp[eB]at kL
def o4(P:Program)(f:FuncId)(g:List AV→Heap→Option (AV×Heap)):Prop:=
 ∀az H v H',g az H=some (v,H')→∀G w vs,bB P G w H→fk G w vs az→k8 P f vs w (gD P G w (.ret v) H')
def KO(P:Program)(f:FuncId)(s:TypeId):Prop:=
 ∀(call:bL),cX P call→∀g caps H r H',ug (call (.fn g) caps H) s=some (r,H')→∀G w vs,bB P G w H→fk G w vs [.func g caps]→k8 P f vs w (gD P G w r H')
structure AY(P:Program)(cfg:mj):Prop where
 mix:P.follows .mixedOrders=true
 fn:∀f A,cfg.F f=some A→∃fn mu,P.funcs[f]?=some fn∧sL P mu fn=some A
 ext:∀f g,cfg.ext f=some g→o4 P f g
 tr:∀f,cfg.vJ f=true→KO P f cfg.vK
theorem wO{vs:Array Value}{az:List AV}{nt:Nat}(h:fk G w vs az):dN G w nt (vs++Array.replicate (nt-vs.size) undef) (ay az):=by
 refine⟨by simp;omega,fun i=> ?_⟩
 unfold ay
 have hs:=h.1
 by_cases hi:i<vs.size
 ·have h2:i<az.length:=by omega
  have e1:(vs++Array.replicate (nt-vs.size) undef).getD i undef=vs[i]:=by
   simp[Array.getD,hi,Array.getElem_append]
   intro h;omega
  have e2:(az[i]?).getD .undef=az[i]:=by simp[h2]
  rw[e1,e2]
  exact h.2 i hi h2
 ·have e2:(az[i]?).getD .undef=.undef:=by
   rw[List.getElem?_eq_none (by omega)];rfl
  rw[e2]
  exact .undef _
theorem oq{nt:Nat}:∀{ps:List Nat}{vs:List Value}{az:List AV}{tmps:Array Value}{T:Env},dN G w nt tmps T→ps.all (fun d=>decide (d<nt))=true→vs.length=az.length→ps.length=vs.length→
 (∀i(h1:i<vs.length)(h2:i<az.length),bG G w vs[i] az[i])→dN G w nt ((ps.zip vs).foldl (fun tmps(t,a)=>tmps.setIfInBounds t a) tmps) (mZ T ps az)
 |[],vs,az,tmps,T,hT,_,_,_,_=>by simpa[mZ]using hT
 |p::ps,[],az,tmps,T,hT,_,_,h,_=>by simp at h
 |p::ps,v::vs,[],tmps,T,hT,_,h,_,_=>by simp at h
 |p::ps,v::vs,a::az,tmps,T,hT,hp,h1,h2,hr=>by
  simp only[List.all_cons,Bool.and_eq_true,decide_eq_true_eq]at hp
  simp only[List.zip_cons_cons,List.foldl_cons,mZ]
  exact oq (hT.put hp.1 (hr 0 (by simp) (by simp))) hp.2 (by simpa using h1) (by simpa using h2) fun i i1 i2=>by
   have:=hr (i+1) (by simpa using i1) (by simpa using i2)
   simpa using this
theorem tC{fn:Func}{A:aO}(h:sL P mu fn=some A):∃c ac,fn.body=some c∧eB P mu fn.ntmps c=some ac∧qc P fn.results.toList=some A.results∧A.body=ac∧A.round=false∧(fn.name== "runtime.NumGoroutine")=false:=by
 unfold sL at h
 split at h
 ·rename_i c hb
  split at h
  ·rename_i ac rs h1 h2
   split at h
   ·cases h
   ·rename_i hn
    simp only[Option.some.injEq]at h
    subst h
    exact⟨c,ac,hb,h1,h2,rfl,rfl,by simpa using hn⟩
  ·cases h
 ·cases h
theorem wP{call:bL}(hc:cX P call)(y6:P.follows .mixedOrders=true){f:FuncId}{fn:Func}{A:aO}(hf:P.funcs[f]?=some fn)(hA:sL P mu fn=some A){n:Nat}{az:List AV}{H H':Heap}{r:cZ}
 (h:run call A n [.c A.body] (ay az) H=some (r,H')){vs:Array Value}(hH:bB P G w H)(hargs:fk G w vs az):k8 P f vs w (gD P G w r H'):=by
 obtain⟨c,ac,h1,h2,h3,h4,h5,h6⟩:=tC hA
 refine .inl ⟨w,?_,fun cs=> ?_,rfl⟩
 ·unfold callFunc
  simp only[Sem.run_bind,run_program,Result.andThen_ok,hf,h6,Bool.false_eq_true,if_false,h1,Option.isNone_some]
  rfl
 ·let b:Frame:={(default:Frame)with fn:=f,kind:=.normal,roundOf:=none}
  have mL:Frame.enter P f vs .normal=b.atR {tmps:=vs++Array.replicate (fn.ntmps-vs.size) undef,defers:=[]} [.code c]:=by
   simp[Frame.enter,Frame.atR,hf,h1,b]
  have:=uJ hc y6 (ρ:=none) (b:=b) (fn:=fn) (G0:=G) (w0:=w) (cs:=cs) hf (fun _=>h3) h5 rfl n _ _ _ _ _ h G w {tmps:=vs++Array.replicate (fn.ntmps-vs.size) undef,defers:=[]} [.code c] rfl (fun l e=>by cases e)
   (.code (by rw[h4];exact h2) .nil) (wO hargs) hH (.refl _ _) (.nil _ _)
  rw[←mL]at this
  obtain⟨e,w',fr,G',e1,e2,e3,e4,e5,e6⟩:=this
  refine⟨e,w',fr,⟨G',e1,e2,e3⟩,?_,e5,e6⟩
  cases e with
  |outgrown=>cases r<;>obtain⟨u,h',_⟩:=e3<;>cases h'
  |returned u=>exact e4
  |panicked ch=>exact e4
theorem Ew{call:bL}(hc:cX P call)(y6:P.follows .mixedOrders=true){n l:Nat}{az:List AV}{H H1:Heap}{r0 r1:jk}{v0:AV}(hl:H.loops[l]?=some r0)(hlen:az.length=r0.ps.length)
 (h:run call {results:=[],body:=.skip,round:=true} n [.c r0.assign,.BS l,.c r0.body] (mZ r0.T r0.ps az) H=some (.ret v0,H1))(hl1:H1.loops[l]?=some r1){vs:Array Value}(hH:bB P G w H)(hargs:fk G w vs az):
 ∃rec,w.heap[G.ln l]?=some (.loop rec)∧vs.size=rec.params.size∧RoundIn (W none) 0 P (G.ln l) rec.fn ((rec.params.zip vs).foldl (fun tmps(t,a)=>tmps.setIfInBounds t a) rec.tmps) rec.assign rec.body w
  (gD P G w (.ret (.bool true)) {H1 with loops:=H1.loops.set l {r1 with busy:=false}}):=by
 obtain⟨hlt,Ii⟩:=List.getElem?_eq_some_iff.1 hl
 obtain⟨rec,j1,j2⟩:=hH.loop l hlt
 rw[Ii]at j2
 obtain⟨fn,hfn⟩:=j2.fn
 obtain⟨mu,nt,k1,k2,k3,k4⟩:=j2.body
 have hlt':l<G.nl:=by rw[hH.nl];exact hlt
 have hsz:vs.size=rec.params.size:=by
  rw[hargs.1,hlen,←j2.ps];simp
 refine⟨rec,j1,hsz,trivial,fun c cs _=> ?_⟩
 let b:Frame:={(default:Frame)with fn:=rec.fn,kind:=.normal,roundOf:=some (G.ln l)}
 have hb0:Frame.round (G.ln l) rec.fn ((rec.params.zip vs).foldl (fun tmps(t,a)=>tmps.setIfInBounds t a) rec.tmps) rec.assign rec.body .normal=
  b.atR {tmps:=(rec.params.zip vs).foldl (fun tmps(t,a)=>tmps.setIfInBounds t a) rec.tmps,defers:=[]} [.code rec.assign,.beginRound,.code rec.body]:=by
  simp[Frame.round,Frame.atR,b]
 have hT:dN G w nt ((rec.params.zip vs).foldl (fun tmps(t,a)=>tmps.setIfInBounds t a) rec.tmps) (mZ r0.T r0.ps az):=by
  have:=oq (vs:=vs.toList) (az:=az) k1 k2 (by simpa using hargs.1) (by rw[←j2.ps];simpa using hsz.symm) fun i h1 h2=>by simpa using hargs.2 i (by simpa using h1) h2
  rw[←j2.ps,←Array.toList_zip,Array.foldl_toList]at this
  rw[←j2.ps]
  exact this
 have:=uJ hc y6 (ρ:=some l) (b:=b) (fn:=fn) (G0:=G) (w0:=w) (cs:=c::cs) hfn (fun e=>by cases e) rfl rfl n _ _ _ _ _ h G w {tmps:=(rec.params.zip vs).foldl (fun tmps(t,a)=>tmps.setIfInBounds t a) rec.tmps,defers:=[]}
  [.code rec.assign,.beginRound,.code rec.body] rfl (fun l' e=>by cases e;exact hlt') (.code k3 (.BS rfl (.code k4 .nil))) hT hH (.refl _ _) (.nil _ _)
 rw[←hb0]at this
 obtain⟨a',w1,G1,s1,s2,s3⟩:=this
 obtain⟨Tj,Sh⟩:=List.getElem?_eq_some_iff.1 hl1
 obtain⟨IJ,i1,i2⟩:=s2.loop l Tj
 rw[Sh]at i2
 have Oj:G1.ln l=G.ln l:=s1.ln l hlt'
 have hend:(Instr.endRound (G.ln l) none).run P w1=.ok (.bool true) (w1.putObj (G.ln l) (.loop {IJ with state:=.ready,pending:=none})):=by
  have:=run_endRound (P:=P) none (Oj▸i1)
  simpa using this
 have hlr:k5 P G1 w1 {r1 with busy:=false} {IJ with state:=.ready,pending:=none}:=⟨fun _=>rfl,rfl,i2.ps,i2.fn,i2.fits,i2.body⟩
 refine⟨.returned (.bool true),w1.putObj (G.ln l) (.loop {IJ with state:=.ready,pending:=none}),⟨G1,?_,?_,_,rfl,.bool true⟩,?_⟩
 ·have VW:=i1
  rw[Oj]at VW
  exact s1.putObj (o2:=.loop {IJ with state:=.ready,pending:=none}) VW trivial trivial (.inr ⟨l,hlt',rfl⟩)
 ·have:=s2.AX (Nat.lt_of_lt_of_le hlt' s1.nl) i1 hlr
  rw[Oj]at this
  exact this
 ·have hs:=stepR_round_end (P:=P) (b:=b) (a:=a') (cs:=cs) (c:=c) rfl rfl hend
  exact stepsIn_wide.2 (Steps.trans s3 (.one hs))
theorem Cg{call:bL}(hc:cX P call)(y6:P.follows .mixedOrders=true){n l:Nat}{az:List AV}{H H1:Heap}{r0:jk}{v0:AV}(hl:H.loops[l]?=some r0)(hlen:az.length=r0.ps.length)
 (h:run call {results:=[],body:=.skip,round:=true} n [.c r0.assign,.BS l,.c r0.body] (mZ r0.T r0.ps az) H=some (.cS v0,H1)){vs:Array Value}(hH:bB P G w H)(hargs:fk G w vs az):
 ∃rec,w.heap[G.ln l]?=some (.loop rec)∧vs.size=rec.params.size∧RoundIn (W none) 0 P (G.ln l) rec.fn ((rec.params.zip vs).foldl (fun tmps(t,a)=>tmps.setIfInBounds t a) rec.tmps) rec.assign rec.body w
  (gD P G w (.cS v0) H1):=by
 obtain⟨hlt,Ii⟩:=List.getElem?_eq_some_iff.1 hl
 obtain⟨rec,j1,j2⟩:=hH.loop l hlt
 rw[Ii]at j2
 obtain⟨fn,hfn⟩:=j2.fn
 obtain⟨mu,nt,k1,k2,k3,k4⟩:=j2.body
 have hlt':l<G.nl:=by rw[hH.nl];exact hlt
 have hsz:vs.size=rec.params.size:=by
  rw[hargs.1,hlen,←j2.ps];simp
 refine⟨rec,j1,hsz,trivial,fun c cs _=> ?_⟩
 let b:Frame:={(default:Frame)with fn:=rec.fn,kind:=.normal,roundOf:=some (G.ln l)}
 have hb0:Frame.round (G.ln l) rec.fn ((rec.params.zip vs).foldl (fun tmps(t,a)=>tmps.setIfInBounds t a) rec.tmps) rec.assign rec.body .normal=
  b.atR {tmps:=(rec.params.zip vs).foldl (fun tmps(t,a)=>tmps.setIfInBounds t a) rec.tmps,defers:=[]} [.code rec.assign,.beginRound,.code rec.body]:=by
  simp[Frame.round,Frame.atR,b]
 have hT:dN G w nt ((rec.params.zip vs).foldl (fun tmps(t,a)=>tmps.setIfInBounds t a) rec.tmps) (mZ r0.T r0.ps az):=by
  have:=oq (vs:=vs.toList) (az:=az) k1 k2 (by simpa using hargs.1) (by rw[←j2.ps];simpa using hsz.symm) fun i h1 h2=>by simpa using hargs.2 i (by simpa using h1) h2
  rw[←j2.ps,←Array.toList_zip,Array.foldl_toList]at this
  rw[←j2.ps]
  exact this
 have:=uJ hc y6 (ρ:=some l) (b:=b) (fn:=fn) (G0:=G) (w0:=w) (cs:=c::cs) hfn (fun e=>by cases e) rfl rfl n _ _ _ _ _ h G w {tmps:=(rec.params.zip vs).foldl (fun tmps(t,a)=>tmps.setIfInBounds t a) rec.tmps,defers:=[]}
  [.code rec.assign,.beginRound,.code rec.body] rfl (fun l' e=>by cases e;exact hlt') (.code k3 (.BS rfl (.code k4 .nil))) hT hH (.refl _ _) (.nil _ _)
 rw[←hb0]at this
 obtain⟨e,w',fr,G',e1,e2,e3,e4,e5,e6⟩:=this
 obtain⟨u,rfl,hu⟩:=e3
 exact⟨.panicked [{v:=u,recovered:=false}],w',⟨G',e1,e2,u,rfl,hu⟩,stepsIn_wide.2 (Steps.trans e4 (.one (step_leave_panicked e6)))⟩
theorem wQ{cfg:mj}(pI:AY P cfg):∀n,cX P (cK cfg n):=by
 intro n
 induction n with
 |zero=>exact⟨fun f az H r H' h=>by simp[cK]at h,fun l az H r H' h=>by simp[cK]at h⟩
 |succ n ih=>
  refine⟨fun f az H r H' h G w vs hH hargs=> ?_,fun l az H r H' h G w vs hH hargs hlt=> ?_⟩
  ·rw[cK]at h
   simp only at h
   split at h
   ·rename_i ht
    split at h
    ·rename_i g caps
     exact pI.tr f ht _ ih g caps H r H' h G w vs hH hargs
    ·cases h
   ·split at h
    ·rename_i g hg
     split at h<;>simp only[Option.some.injEq,Prod.mk.injEq,reduceCtorEq]at h
     rename_i v hv
     obtain⟨rfl,rfl⟩:=h
     exact pI.ext f g hg az H v.1 v.2 hv G w vs hH hargs
    ·split at h
     ·rename_i A hA
      obtain⟨fn,mu,h1,h2⟩:=pI.fn f A hA
      exact wP ih pI.mix h1 h2 h hH hargs
     ·cases h
  ·rw[cK]at h
   simp only at h
   split at h
   ·rename_i r0 Ii
    split at h
    ·cases h
    ·rename_i hlen
     split at h
     ·rename_i v0 H1 hrun
      split at h<;>simp only[Option.some.injEq,Prod.mk.injEq,reduceCtorEq]at h
      rename_i r1 Sh
      obtain⟨rfl,rfl⟩:=h
      exact Ew ih pI.mix Ii (by simpa using hlen) hrun Sh hH hargs
     ·rename_i v0 H1 hrun
      simp only[Option.some.injEq,Prod.mk.injEq]at h
      obtain⟨rfl,rfl⟩:=h
      exact Cg ih pI.mix Ii (by simpa using hlen) hrun hH hargs
     ·cases h
   ·cases h
theorem Ex{cfg:mj}(pI:AY P cfg){n:Nat}{f:FuncId}{az:List AV}{v:AV}{H':Heap}(h:cK cfg n (.fn f) az Heap.nil=some (.ret v,H'))(hF:(cfg.F f).isSome=true)(hx:cfg.ext f=none)(ht:cfg.vJ f=false)
 {vs:Array Value}(hH:bB P G w Heap.nil)(hargs:fk G w vs az):Calls P f vs w fun e w'=>∃u G',e=.returned u∧Step G w G' w'∧bG G' w' u v:=by
 cases n with
 |zero=>simp[cK]at h
 |succ n=>
  rw[cK]at h
  simp only[ht,Bool.false_eq_true,if_false,hx]at h
  split at h
  ·rename_i A hA
   obtain⟨fn,mu,h1,h2⟩:=pI.fn f A hA
   rcases wP (wQ pI n) pI.mix h1 h2 h hH hargs with⟨w1,c1,c2,_⟩|⟨u,w',c1,c2⟩
   ·exact c2.mono fun e w' hp=>by
     obtain⟨G',g1,g2,u,rfl,g3⟩:=hp
     exact⟨u,G',rfl,g1,g3⟩
   ·exfalso
    obtain⟨c,ac,d1,d2,d3,d4,d5,d6⟩:=tC h2
    unfold callFunc at c1
    simp only[Sem.run_bind,run_program,Result.andThen_ok,h1,d6,Bool.false_eq_true,if_false,d1,Option.isNone_some]at c1
    cases c1
  ·cases h
end Go.Aa

