/-
  WHAT THE LAW LEANS ON, part 3 of 6: a machine of values and its soundness; the functions of the law upon it; what they come to.
-/
import Derived.Test.YtbcfceehklfojaaGreatDoorVworb
import Derived.CallsIn
import Derived.RangeFuncIn
import Derived.RangeFuncRecord
import Derived.OrdersIn
set_option linter.unusedVariables false
set_option linter.unusedSimpArgs false
namespace Go.Aa
open Go.RowKit
variable{P:Program}{G G':Ghost}{w w':World}
def W(ro:Option Nat):Fence:={Fence.wide with round:=ro}
def Args(G:Ghost)(w:World)(vs:Array Value)(az:List AV):Prop:=vs.size=az.length∧∀i(h1:i<vs.size)(h2:i<az.length),Rep G w vs[i] az[i]
theorem Args.step{vs:Array Value}{az:List AV}(h:Args G w vs az)(hst:Step G w G' w'):Args G' w' vs az:=⟨h.1,fun i h1 h2=>(h.2 i h1 h2).step hst⟩
theorem Args.append{us vs:Array Value}{az bs:List AV}(h:Args G w us az)(k:Args G w vs bs):Args G w (us++vs) (az++bs):=by
 refine⟨by simp[h.1,k.1],fun i h1 h2=> ?_⟩
 rw[Array.getElem_append,List.getElem_append]
 by_cases hi:i<us.size
 ·rw[dif_pos hi,dif_pos (by rw[←h.1];exact hi)]
  exact h.2 i hi _
 ·rw[dif_neg hi,dif_neg (by rw[←h.1];exact hi)]
  have e:i-us.size=i-az.length:=by rw[h.1]
  have:=k.2 (i-us.size) (by simp at h1;omega) (by have:=h.1;simp at h2;omega)
  simpa[e]using this
def EndOk(G:Ghost)(w:World)(e:Ending):ARes→Prop
 |.ret v=>∃u,e=.returned u∧Rep G w u v
 |.pan v=>∃u,e=.panicked [{v:=u,recovered:=false}]∧Rep G w u v
def PostOk(P:Program)(G:Ghost)(w:World)(r:ARes)(H':Heap)(e:Ending)(w':World):Prop:=∃G',Step G w G' w'∧HRep P G' w' H'∧EndOk G' w' e r
def CallOk(P:Program)(f:FuncId)(vs:Array Value)(w:World)(R:Ending→World→Prop):Prop:=
 (∃w1,(callFunc f vs).run P w=.ok (.enter f vs) w∧Calls P f vs w R∧w1=w)∨∃u w',(callFunc f vs).run P w=.ok (.value u) w'∧R (.returned u) w'
theorem CallOk.mono{f:FuncId}{vs:Array Value}{R R':Ending→World→Prop}(h:CallOk P f vs w R)(hr:∀e w',R e w'→R' e w'):CallOk P f vs w R':=by
 rcases h with⟨w1,h1,h2,h3⟩|⟨u,w',h1,h2⟩
 ·exact .inl ⟨w1,h1,h2.mono hr,h3⟩
 ·exact .inr ⟨u,w',h1,hr _ _ h2⟩
structure CallSound(P:Program)(call:CallF):Prop where
 fn:∀f az H r H',call (.fn f) az H=some (r,H')→∀G w vs,HRep P G w H→Args G w vs az→CallOk P f vs w (PostOk P G w r H')
 yl:∀l az H r H',call (.yl l) az H=some (r,H')→∀G w vs,HRep P G w H→Args G w vs az→l<H.loops.length→
  ∃rec,w.heap[G.ln l]?=some (.loop rec)∧vs.size=rec.params.size∧RoundIn (W none) 0 P (G.ln l) rec.fn ((rec.params.zip vs).foldl (fun tmps(t,a)=>tmps.setIfInBounds t a) rec.tmps) rec.assign rec.body w (PostOk P G w r H')
theorem calls_W{ro:Option Nat}{f:FuncId}{vs:Array Value}{R:Ending→World→Prop}(h:Calls P f vs w R):CallsIn (W ro) 0 P f vs w R:=callsIn_wide.2 h
theorem data1_data{x:AV}(h:data1 x=true){v:Value}(hr:Rep G w v x):x.Data:=by
 cases x<;>try exact data0_data h hr
 ·rename_i cs
  cases hr with
  |agg us _ hn hr=>
  exact .agg _ fun y hy=>by
   obtain⟨i,hi,rfl⟩:=List.getElem_of_mem hy
   exact data0_data (List.all_eq_true.1 h _ (List.getElem_mem hi)) (hr i (by omega) hi)
 ·rename_i f cs
  cases hr with
  |func _ us _ hn hr=>
  exact .func _ _ fun y hy=>by
   obtain⟨i,hi,rfl⟩:=List.getElem_of_mem hy
   exact data0_data (List.all_eq_true.1 h _ (List.getElem_mem hi)) (hr i (by omega) hi)
theorem data2_data{x:AV}(h:data2 x=true){v:Value}(hr:Rep G w v x):x.Data:=by
 cases x<;>try exact data1_data h hr
 rename_i t y
 cases hr with
 |iface _ u _ hr=>exact .iface _ _ (data1_data h hr)
theorem isData_data{x:AV}(h:isData x=true){v:Value}(hr:Rep G w v x):x.Data:=by
 cases x<;>try exact data2_data h hr
 rename_i cs
 cases hr with
 |tuple us _ hn hr=>
 exact .tuple _ fun y hy=>by
  obtain⟨i,hi,rfl⟩:=List.getElem_of_mem hy
  exact data2_data (List.all_eq_true.1 h _ (List.getElem_mem hi)) (hr i (by omega) hi)
def Ghost.bare(G:Ghost):Ghost:={G with nb:=0,nt:=0,nl:=0}
theorem bare_heap{H:Heap}(hH:HRep P G w H):HRep P G.bare w Heap.nil:=
 ⟨hH.base,rfl,rfl,rfl,fun k hk=>absurd hk (by simp[Heap.nil]),fun i j hi=>absurd hi.1 (by simp[Ghost.bare]),fun k hk=>absurd hk.1 (by simp[Ghost.bare]),fun t ht=>absurd ht (by simp[Heap.nil]),fun i j hi=>absurd hi (by simp[Ghost.bare]),
  fun k t hk=>absurd hk.1 (by simp[Ghost.bare]),fun l hl=>absurd hl (by simp[Heap.nil]),fun i j hi=>absurd hi (by simp[Ghost.bare]),
  hH.glob.turn (fun g _=>⟨fun k hk=>absurd hk.1 (by simp[Ghost.bare]),fun k hk=>absurd hk (by simp[Ghost.bare]),fun k hk=>absurd hk (by simp[Ghost.bare])⟩) (fun _ _ _ _ _ h=>h)⟩
theorem bare_args{vs:Array Value}{az:List AV}(h:Args G w vs az)(hd:∀x∈az,isData x=true):Args G.bare w vs az:=
 ⟨h.1,fun i h1 h2=>(h.2 i h1 h2).data (isData_data (hd _ (List.getElem_mem h2)) (h.2 i h1 h2)) fun _=>Nat.le_refl _⟩
theorem bare_grow{H:Heap}(hH:HRep P G w H){G1:Ghost}(hst:Step G.bare w G1 w')(hb:Base G1 w'):Grow G w {G with lim:=G1.lim} w':=
 ⟨rfl,hst.os,hst.tape,hst.output,hst.size,fun b hb'=>hst.frame b hb' (fun k hk=>absurd hk.1 (by simp[Ghost.bare])) (fun t ht=>absurd ht (by simp[Ghost.bare])) (fun l hl=>absurd hl (by simp[Ghost.bare])),hb⟩
theorem in0_fits{nb nt nl:Nat}{v:Value}{x:AV}(hr:Rep G w v x)(h:in0 nb nt x=true):Fits nb nt nl x:=by
 cases hr with
 |ptr k off hk=>exact .ptr k off (by simpa[in0]using h)
 |msl k off n c es hk hc=>exact .msl k off n es (by simpa[in0]using h)
 |sl a c k l es us hl hc hcm hs hes he0 hd hlim hcell hrep hfull hown=>exact .sl k l fun t ht=>by subst ht;simpa[in0]using h
 |sl0 a c k hc ht=>exact .sl _ _ fun t e=>absurd e (ht t)
 |agg=>simp[in0]at h
 |tuple=>simp[in0]at h
 |func=>simp[in0]at h
 |iface=>simp[in0]at h
 |yield=>simp[in0]at h
 |ref a cs us hs hd=>exact .data _ (.ref _ hd)
 |undef=>exact .data _ .undef
 |bool=>exact .data _ (.bool _)
 |int=>exact .data _ (.int _ _)
 |flt=>exact .data _ (.flt _)
 |nan _ hn=>exact .data _ .nan
 |str=>exact .data _ (.str _)
 |nilptr=>exact .data _ .nilptr
 |nilFunc=>exact .data _ .nilFunc
 |nilIface=>exact .data _ .nilIface
theorem in1_fits{nb nt nl:Nat}{v:Value}{x:AV}(hr:Rep G w v x)(h:in1 nb nt x=true):Fits nb nt nl x:=by
 cases x<;>try exact in0_fits hr h
 ·cases hr with
  |agg us _ hn hr=>exact .agg _ fun y hy=>by obtain⟨i,hi,rfl⟩:=List.getElem_of_mem hy;exact in0_fits (hr i (by omega) hi) (List.all_eq_true.1 h _ hy)
 ·cases hr with
  |func _ us _ hn hr=>exact .func _ _ fun y hy=>by obtain⟨i,hi,rfl⟩:=List.getElem_of_mem hy;exact in0_fits (hr i (by omega) hi) (List.all_eq_true.1 h _ hy)
theorem in2_fits{nb nt nl:Nat}{v:Value}{x:AV}(hr:Rep G w v x)(h:in2 nb nt x=true):Fits nb nt nl x:=by
 cases x<;>try exact in1_fits hr h
 cases hr with
 |iface _ u _ hr=>exact .iface _ _ (in1_fits hr h)
theorem within_fits{nb nt nl:Nat}{v:Value}{x:AV}(hr:Rep G w v x)(h:within nb nt x=true):Fits nb nt nl x:=by
 cases x<;>try exact in2_fits hr h
 cases hr with
 |tuple us _ hn hr=>exact .tuple _ fun y hy=>by obtain⟨i,hi,rfl⟩:=List.getElem_of_mem hy;exact in2_fits (hr i (by omega) hi) (List.all_eq_true.1 h _ hy)
def Ghost.cut(G:Ghost)(nb nt nl:Nat):Ghost:={G with nb:=nb,nt:=nt,nl:=nl}
theorem Step.cut{nb nt nl:Nat}(h:Step G w G' w')(h1:G.nb≤nb)(h2:nb≤G'.nb)(h3:G.nt≤nt)(h4:nt≤G'.nt)(h5:G.nl≤nl)(h6:nl≤G'.nl):Step G w (G'.cut nb nt nl) w':=
 ⟨h.os,h.tape,h.output,h.size,h.lim,h.cell,h1,h.hole,h.μ,fun k k2=>h.μnew k ⟨Nat.lt_of_lt_of_le k2.1 h2,k2.2⟩,h.mc,h3,h.ext,h.τ,h.tes,fun t ht=>h.τnew t (Nat.lt_of_lt_of_le ht h4),h5,h.ln,
  fun k k1 k2=>h.lnew k k1 (Nat.lt_of_lt_of_le k2 h6),h.frame⟩
theorem live_take{H:Heap}{nb:Nat}{ts:List Nat}{ls:List LRec}{k:Nat}(hk:k<nb)(h:LiveB ⟨H.boxes.take nb,ts,ls⟩ k):LiveB H k:=by
 unfold LiveB at h⊢
 simp only[List.getElem?_take,hk,if_true]at h
 exact h
theorem HRep.cut{H:Heap}(h:HRep P G w H){nb nt nl:Nat}(h1:nb≤G.nb)(h2:nt≤G.nt)(h3:nl≤G.nl)
 (hb:∀cs∈H.boxes.take nb,∀x∈cs,∀v,Rep G w v x→Fits nb nt nl x)(hl:∀r∈H.loops.take nl,r.nb≤nb∧r.nt≤nt∧r.nl≤nl):
 HRep P (G.cut nb nt nl) w ⟨H.boxes.take nb,H.toks.take nt,H.loops.take nl⟩:=by
 have eb:=h.nb
 have et:=h.nt
 have el:=h.nl
 refine⟨h.base,by simp[Ghost.cut];omega,by simp[Ghost.cut];omega,by simp[Ghost.cut];omega,fun k hk hh=> ?_,fun i j hi hj li lj=>h.μinj i j ⟨Nat.lt_of_lt_of_le hi.1 h1,hi.2⟩ ⟨Nat.lt_of_lt_of_le hj.1 h1,hj.2⟩ (live_take hi.1 li) (live_take hj.1 lj),
  fun k hk lk=>h.μlim k ⟨Nat.lt_of_lt_of_le hk.1 h1,hk.2⟩ (live_take hk.1 lk),fun t ht=> ?_,fun i j hi hj=>h.τinj i j (Nat.lt_of_lt_of_le hi h2) (Nat.lt_of_lt_of_le hj h2),
  fun k t hk ht=>h.μτ k t ⟨Nat.lt_of_lt_of_le hk.1 h1,hk.2⟩ (Nat.lt_of_lt_of_le ht h2),fun l hl'=> ?_,fun i j hi hj=>h.linj i j (Nat.lt_of_lt_of_le hi h3) (Nat.lt_of_lt_of_le hj h3),
  h.glob.turn (fun g hg=>⟨fun k hk=>hg.1 k ⟨Nat.lt_of_lt_of_le hk.1 h1,hk.2⟩,fun t ht=>hg.2.1 t (Nat.lt_of_lt_of_le ht h2),fun l hl=>hg.2.2 l (Nat.lt_of_lt_of_le hl h3)⟩) (fun _ _ _ _ _ h=>h)⟩
 ·have hk':k<H.boxes.length:=by simp at hk;omega
  obtain⟨us,e,a1,a2,a3⟩:=h.box k hk' hh
  have hm:(H.boxes.take nb)[k]∈H.boxes.take nb:=List.getElem_mem hk
  have hg:(H.boxes.take nb)[k]=H.boxes[k]:=by simp
  refine⟨us,e,a1,by simpa[hg,Ghost.cut]using a2,fun i i1 i2=> ?_⟩
  have i2':i<(H.boxes[k]).length:=by simpa using i2
  have r:=a3 i i1 i2'
  have:=r.cut (nb:=nb) (nt:=nt) (nl:=nl) (hb _ hm _ (by rw[hg];exact List.getElem_mem i2') _ r)
  simpa[Ghost.cut]using this
 ·have ht':t<H.toks.length:=by simp at ht;omega
  obtain⟨a1,a2⟩:=h.tok t ht'
  exact⟨by simpa[Ghost.cut]using a1,a2⟩
 ·have hl2:l<H.loops.length:=by simp at hl';omega
  obtain⟨rec,a1,a2⟩:=h.loop l hl2
  refine⟨rec,a1,?_⟩
  have hg:(H.loops.take nl)[l]=H.loops[l]:=by simp
  obtain⟨n1,n2,n3⟩:=hl _ (List.getElem_mem hl')
  simp only[hg]at n1 n2 n3
  obtain⟨b1,b2,b3,b4,⟨b5,b6,b7,b8⟩,mu',nt',c1,c2⟩:=a2
  show LRep P (G.cut nb nt nl) w (H.loops.take nl)[l] rec
  rw[hg]
  exact⟨b1,b2,b3,b4,⟨n1,n2,n3,b8⟩,mu',nt',⟨c1.size,fun i=>(c1.get i).cut ((b8 i).mono n1 n2 n3)⟩,c2⟩
theorem take_len{α:Type}(l:List α):l.take l.length=l:=by simp
theorem trunc_sound{H:Heap}{u:Value}{v:AV}(hst:Step G w G' w')(hH:HRep P G' w' H)(hr:Rep G' w' u v):∃G'',Step G w G'' w'∧HRep P G'' w' (trunc G.nb G.nt v H)∧Rep G'' w' u v:=by
 have eb:=hH.nb
 have et:=hH.nt
 have el:=hH.nl
 have key:∀nb nt,G.nb≤nb→nb≤G'.nb→G.nt≤nt→nt≤G'.nt→(∀cs∈H.boxes.take nb,∀x∈cs,∀v,Rep G' w' v x→Fits nb nt G'.nl x)→(∀r∈H.loops,r.nb≤nb∧r.nt≤nt∧r.nl≤G'.nl)→Fits nb nt G'.nl v→
  ∃G'',Step G w G'' w'∧HRep P G'' w' ⟨H.boxes.take nb,H.toks.take nt,H.loops⟩∧Rep G'' w' u v:=by
  intro nb nt h1 h2 h3 h4 hb hl hv
  refine⟨G'.cut nb nt G'.nl,hst.cut h1 h2 h3 h4 hst.nl (Nat.le_refl _),?_,hr.cut hv⟩
  have:=hH.cut (nb:=nb) (nt:=nt) (nl:=G'.nl) h2 h4 (Nat.le_refl _) hb (fun r hr=>hl r (List.mem_of_mem_take hr))
  rwa [el,take_len,←el]at this
 have hlo:∀r∈H.loops,r.nb≤G'.nb∧r.nt≤G'.nt∧r.nl≤G'.nl:=fun r hr=>by
  obtain⟨l,hl,rfl⟩:=List.getElem_of_mem hr
  obtain⟨rec,_,a2⟩:=hH.loop l hl
  exact⟨a2.fits.1,a2.fits.2.1,a2.fits.2.2.1⟩
 have hst1:=hst.nb
 have hst2:=hst.nt
 unfold trunc
 simp only
 by_cases hB:(H.loops.all (fun r=>decide (r.nb≤G.nb))&&within G.nb H.toks.length v&&(H.boxes.take G.nb).all (·.all (in2 G.nb H.toks.length)))=true
 ·rw[if_pos hB]
  simp only[Bool.and_eq_true,List.all_eq_true,decide_eq_true_eq]at hB
  obtain⟨⟨b1,b2⟩,b3⟩:=hB
  have elen:(H.boxes.take G.nb).length=G.nb:=by simp;omega
  by_cases hT:(H.loops.all (fun r=>decide (r.nt≤G.nt))&&within (H.boxes.take G.nb).length G.nt v&&(H.boxes.take G.nb).all (·.all (in2 (H.boxes.take G.nb).length G.nt)))=true
  ·rw[if_pos hT]
   simp only[Bool.and_eq_true,List.all_eq_true,decide_eq_true_eq,elen]at hT
   obtain⟨⟨t1,t2⟩,t3⟩:=hT
   exact key G.nb G.nt (Nat.le_refl _) hst1 (Nat.le_refl _) hst2 (fun cs hcs x hx v hv=>in2_fits hv (t3 cs hcs x hx)) (fun r hr=>⟨b1 r hr,t1 r hr,(hlo r hr).2.2⟩) (within_fits hr t2)
  ·rw[if_neg hT]
   have:=key G.nb G'.nt (Nat.le_refl _) hst1 hst2 (Nat.le_refl _) (fun cs hcs x hx v hv=>by rw[et];exact in2_fits hv (b3 cs hcs x hx)) (fun r hr=>⟨b1 r hr,(hlo r hr).2⟩) (by rw[et];exact within_fits hr b2)
   rwa [et,take_len]at this
 ·rw[if_neg hB]
  by_cases hT:(H.loops.all (fun r=>decide (r.nt≤G.nt))&&within H.boxes.length G.nt v&&H.boxes.all (·.all (in2 H.boxes.length G.nt)))=true
  ·rw[if_pos hT]
   simp only[Bool.and_eq_true,List.all_eq_true,decide_eq_true_eq]at hT
   obtain⟨⟨t1,t2⟩,t3⟩:=hT
   have:=key G'.nb G.nt hst1 (Nat.le_refl _) (Nat.le_refl _) hst2 (fun cs hcs x hx v hv=>by rw[eb];exact in2_fits hv (t3 cs (List.mem_of_mem_take hcs) x hx)) (fun r hr=>⟨(hlo r hr).1,t1 r hr,(hlo r hr).2.2⟩) (by rw[eb];exact within_fits hr t2)
   rwa [eb,take_len]at this
  ·rw[if_neg hT]
   exact⟨G',hst,hH,hr⟩
theorem unrow_len{es:Nat}:∀(n:Nat)(cs:List AV),(unrow es n cs).length=n
 |0,_=>rfl
 |n+1,cs=>by simp[unrow,unrow_len n]
theorem unrow_get{es:Nat}:∀(n:Nat)(cs:List AV)(i:Nat)(hi:i<(unrow es n cs).length),(unrow es n cs)[i]=if es=1 then(cs.drop (i*es)).headD .undef else .agg ((cs.drop (i*es)).take es)
 |0,cs,i,hi=>absurd hi (by simp[unrow])
 |n+1,cs,i,hi=>by
  cases i with
  |zero=>simp[unrow]
  |succ i=>
   simp only[unrow,List.getElem_cons_succ]
   rw[unrow_get n (cs.drop es) i (by simpa[unrow]using hi)]
   simp only[List.drop_drop]
   have e:es+i*es=(i+1)*es:=by rw[Nat.add_mul];omega
   rw[e]
theorem unrow_cells{es n:Nat}{cs:List AV}(h0:0<es)(hle:n*es≤cs.length)(hd:cs.all data0=true)(i:Nat)(hi:i<(unrow es n cs).length):((unrow es n cs)[i]).cells=(cs.drop (i*es)).take es:=by
 rw[unrow_get]
 have hin:i<n:=by rw[unrow_len]at hi;exact hi
 have hlt:i*es+es≤cs.length:=by
  have:=Nat.mul_le_mul_right es (show i+1≤n from hin)
  rw[Nat.add_mul]at this;omega
 split
 ·rename_i e1
  subst e1
  have hlt':i*1<cs.length:=by omega
  rw[List.drop_eq_getElem_cons hlt']
  simp only[List.headD_cons,List.take_succ_cons,List.take_zero]
  have:=List.all_eq_true.1 hd _ (List.getElem_mem hlt')
  generalize cs[i*1]=x at this
  cases x<;>first|rfl|simp[data0]at this
 ·rfl
theorem Rep.lim{L:Nat→Nat}(hL:∀b,G.lim b≤L b){v:Value}{x:AV}(h:Rep G w v x):Rep {G with lim:=L} w v x:=
 Rep.keep (G':={G with lim:=L}) ⟨hL,fun _ _ _=>rfl,Nat.le_refl _,fun _ h=>h,fun _ _=>rfl,Nat.le_refl _,fun _ _=>Nat.le_refl _,fun _ _ _=>⟨rfl,rfl⟩,fun _ _=>rfl,Nat.le_refl _,fun _ _=>rfl,fun _ _=>rfl⟩ h
theorem Rep.lim2{L L':Nat→Nat}(hL:∀b,L b≤L' b){v:Value}{x:AV}(h:Rep {G with lim:=L} w v x):Rep {G with lim:=L'} w v x:=
 Rep.lim (G:={G with lim:=L}) hL h
def Raise(G:Ghost)(L L':Nat→Nat):Prop:=(∀b,L b≤L' b)∧∀b,L' b≠L b→∃k,G.on k∧b=G.μ k
theorem Raise.refl(G:Ghost)(L:Nat→Nat):Raise G L L:=⟨fun _=>Nat.le_refl _,fun _ h=>absurd rfl h⟩
theorem Raise.trans{L1 L2 L3:Nat→Nat}(h:Raise G L1 L2)(k:Raise G L2 L3):Raise G L1 L3:=by
 refine⟨fun b=>Nat.le_trans (h.1 b) (k.1 b),fun b hb=> ?_⟩
 by_cases e:L3 b=L2 b
 ·exact h.2 b (by rw[←e];exact hb)
 ·exact k.2 b e
theorem frz1_rep{H:Heap}(hH:HRep P G w H){L:Nat→Nat}(hL:Raise G G.lim L){u:Value}{x y:AV}(hr:Rep G w u x)(h:frz1 H x=some y):∃L',Raise G L L'∧Rep {G with lim:=L'} w u y:=by
 have other:x=y→∃L',Raise G L L'∧Rep {G with lim:=L'} w u y:=fun e=>⟨L,.refl _ _,by rw[←e];exact hr.lim hL.1⟩
 unfold frz1 at h
 split at h
 ·rename_i k off n es
  split at h
  ·rename_i cs hcs
   split at h
   ·rename_i hc
    obtain⟨hle,-,he0,hd⟩:=hc
    simp only[Option.some.injEq]at h
    subst h
    cases hr with
    |msl _ _ _ c _ hk hnc hcm _ hcap=>
    by_cases hn0:n=0
    ·subst hn0
     exact⟨L,.refl _ _,.sl0 _ _ _ (fun e=>by cases e) (fun t e=>by cases e)⟩
    obtain⟨hlt,hcs'⟩:=List.getElem?_eq_some_iff.1 hcs
    obtain⟨us,e,hb,⟨hsz,hmc⟩,hrep⟩:=hH.box k hlt hk.2
    rw[hcs']at hsz hrep
    let L':Nat→Nat:=fun b=>if b=G.μ k then max (L b) (off+n*es)else L b
    have hR:Raise G L L':=by
     refine⟨fun b=> ?_,fun b hb=> ?_⟩
     ·show L b≤if b=G.μ k then max (L b) (off+n*es)else L b
      split
      ·exact Nat.le_max_left _ _
      ·exact Nat.le_refl _
     ·refine⟨k,hk,?_⟩
      refine Classical.byContradiction fun hne=>hb ?_
      show(if b=G.μ k then max (L b) (off+n*es)else L b)=L b
      rw[if_neg hne]
    refine⟨L',hR,?_⟩
    have hd':(cs.drop off).all data0=true:=List.all_eq_true.2 fun z hz=>List.all_eq_true.1 hd z (List.mem_of_mem_drop hz)
    have hle':n*es≤(cs.drop off).length:=by simp;omega
    have hlen:=unrow_len (es:=es) n (cs.drop off)
    have hcell:=fun i hi=>unrow_cells (i:=i) he0 hle' hd' hi
    have hcl:∀i(hi:i<(unrow es n (cs.drop off)).length),((unrow es n (cs.drop off))[i]).cells.length=es:=fun i hi=>by
     rw[hcell i hi]
     have:i*es+es≤n*es:=by
      have:=Nat.mul_le_mul_right es (show i+1≤n by omega)
      rw[Nat.add_mul]at this;omega
     simp;omega
    have hget:∀i(hi:i<(unrow es n (cs.drop off)).length)j(hj:j<((unrow es n (cs.drop off))[i]).cells.length),∃(h1:off+(i*es+j)<cs.length)(h2:off+(i*es+j)<us.size),((unrow es n (cs.drop off))[i]).cells[j]=cs[off+(i*es+j)]:=fun i hi j hj=>by
     have hj':j<es:=by rw[hcl i hi]at hj;exact hj
     have:i*es+es≤n*es:=by
      have:=Nat.mul_le_mul_right es (show i+1≤n by omega)
      rw[Nat.add_mul]at this;omega
     refine⟨by omega,by omega,?_⟩
     simp only[hcell i hi,List.getElem_take,List.getElem_drop]
    have key:Rep {G with lim:=L'} w (.slice (some ⟨G.μ k,off,none⟩) (unrow es n (cs.drop off)).length c) (.sl .sh (unrow es n (cs.drop off))):=by
     refine .sl _ c .sh _ es (fun i j=>us.getD (off+(i*es+j)) undef) (fun e=>by rw[e]at hlen;simp at hlen;omega) (by rw[hlen];exact hnc) hcm rfl hcl he0 (fun z hz y hy=> ?_) ?_ (fun i hi j hj=> ?_) (fun i hi j hj=> ?_) (fun e=>by cases e) (fun t e=>by cases e)
     ·obtain⟨i,hi,rfl⟩:=List.getElem_of_mem hz
      rw[hcell i hi]at hy
      have hm:=List.mem_of_mem_drop (List.mem_of_mem_take hy)
      have hm2:=List.mem_of_mem_drop hm
      obtain⟨q,hq,rfl⟩:=List.getElem_of_mem hm2
      exact data0_data (List.all_eq_true.1 hd _ hm2) (hrep q (by omega) hq)
     ·show off+(unrow es n (cs.drop off)).length*es≤(if G.μ k=G.μ k then max (L (G.μ k)) (off+n*es)else L (G.μ k))
      rw[if_pos rfl,hlen]
      exact Nat.le_max_right _ _
     ·obtain⟨h1,h2,-⟩:=hget i hi j (by rw[hcl i hi];exact hj)
      rw[add_off rfl]
      simp[World.cell?,hb,Array.getD,h2]
     ·obtain⟨h1,h2,h3⟩:=hget i hi j hj
      rw[h3]
      have:=(hrep _ h2 h1).lim (fun b=>Nat.le_trans (hL.1 b) (hR.1 b))
      simpa[Array.getD,h2]using this
    rwa [hlen]at key
   ·cases h
  ·cases h
 ·rename_i l
  simp only[Option.some.injEq]at h
  subst h
  refine⟨L,.refl _ _,?_⟩
  have hr:=hr.lim hL.1
  cases hr with
  |sl0 a c _ hc ht=>exact .sl0 _ _ _ (fun e=>by cases e) (fun t e=>by cases e)
  |sl a c _ l es us hl hc hcm hs hes he0 hd hlim hcell hrep hfull hown=>exact .sl a c _ l es us hl hc hcm hs hes he0 hd hlim hcell hrep (fun e=>by cases e) (fun t e=>by cases e)
 ·simp only[Option.some.injEq]at h
  exact other h
theorem frzL_rep{H:Heap}(hH:HRep P G w H):∀{xs ys:List AV}{us:List Value}{L:Nat→Nat},Raise G G.lim L→us.length=xs.length→(∀i(h1:i<us.length)(h2:i<xs.length),Rep G w us[i] xs[i])→frzL H xs=some ys→
 ∃L',Raise G L L'∧us.length=ys.length∧∀i(h1:i<us.length)(h2:i<ys.length),Rep {G with lim:=L'} w us[i] ys[i]
 |[],ys,us,L,hL,hl,hr,h=>by
  simp only[frzL,Option.some.injEq]at h
  subst h
  exact⟨L,.refl _ _,hl,fun i h1 h2=>absurd h2 (by simp)⟩
 |x::xs,ys,[],L,hL,hl,hr,h=>by simp at hl
 |x::xs,ys,u::us,L,hL,hl,hr,h=>by
  simp only[frzL]at h
  split at h
  ·rename_i y ys' h1 h2
   simp only[Option.some.injEq]at h
   subst h
   obtain⟨L1,r1,q1⟩:=frz1_rep hH hL (hr 0 (by simp) (by simp)) h1
   obtain⟨L2,r2,e2,q2⟩:=frzL_rep hH (hL.trans r1) (by simpa using hl) (fun i a b=>by
    have:=hr (i+1) (by simpa using a) (by simpa using b)
    simpa only[List.getElem_cons_succ]using this) h2
   refine⟨L2,r1.trans r2,by simpa using e2,fun i a b=> ?_⟩
   cases i with
   |zero=>exact q1.lim2 r2.1
   |succ i=>
    have:=q2 i (by simpa using a) (by simpa using b)
    simpa only[List.getElem_cons_succ]using this
  ·cases h
theorem frz2_rep{H:Heap}(hH:HRep P G w H){L:Nat→Nat}(hL:Raise G G.lim L){u:Value}{x y:AV}(hr:Rep G w u x)(h:frz2 H x=some y):∃L',Raise G L L'∧Rep {G with lim:=L'} w u y:=by
 unfold frz2 at h
 split at h
 ·rename_i cs
  simp only[Option.map_eq_some_iff]at h
  obtain⟨ys,h1,rfl⟩:=h
  cases hr with
  |agg us _ hn hr=>
  obtain⟨L',r,e,q⟩:=frzL_rep hH (us:=us.toList) hL (by simpa using hn) (fun i a b=>by
   rw[Array.getElem_toList]
   exact hr i (by simpa using a) b) h1
  exact⟨L',r,.agg us _ (by simpa using e) fun i a b=>by
   have:=q i (by simpa using a) b
   rwa [Array.getElem_toList]at this⟩
 ·exact frz1_rep hH hL hr h
theorem frzL2_rep{H:Heap}(hH:HRep P G w H):∀{xs ys:List AV}{us:List Value}{L:Nat→Nat},Raise G G.lim L→us.length=xs.length→(∀i(h1:i<us.length)(h2:i<xs.length),Rep G w us[i] xs[i])→frzL2 H xs=some ys→
 ∃L',Raise G L L'∧us.length=ys.length∧∀i(h1:i<us.length)(h2:i<ys.length),Rep {G with lim:=L'} w us[i] ys[i]
 |[],ys,us,L,hL,hl,hr,h=>by
  simp only[frzL2,Option.some.injEq]at h
  subst h
  exact⟨L,.refl _ _,hl,fun i h1 h2=>absurd h2 (by simp)⟩
 |x::xs,ys,[],L,hL,hl,hr,h=>by simp at hl
 |x::xs,ys,u::us,L,hL,hl,hr,h=>by
  simp only[frzL2]at h
  split at h
  ·rename_i y ys' h1 h2
   simp only[Option.some.injEq]at h
   subst h
   obtain⟨L1,r1,q1⟩:=frz2_rep hH hL (hr 0 (by simp) (by simp)) h1
   obtain⟨L2,r2,e2,q2⟩:=frzL2_rep hH (hL.trans r1) (by simpa using hl) (fun i a b=>by
    have:=hr (i+1) (by simpa using a) (by simpa using b)
    simpa only[List.getElem_cons_succ]using this) h2
   refine⟨L2,r1.trans r2,by simpa using e2,fun i a b=> ?_⟩
   cases i with
   |zero=>exact q1.lim2 r2.1
   |succ i=>
    have:=q2 i (by simpa using a) (by simpa using b)
    simpa only[List.getElem_cons_succ]using this
  ·cases h
theorem frzA_rep{H:Heap}(hH:HRep P G w H){u:Value}{x y:AV}(hr:Rep G w u x)(h:frzA H x=some y):∃L',Raise G G.lim L'∧Rep {G with lim:=L'} w u y:=by
 unfold frzA at h
 split at h
 ·rename_i cs
  simp only[Option.map_eq_some_iff]at h
  obtain⟨ys,h1,rfl⟩:=h
  cases hr with
  |tuple us _ hn hr=>
  obtain⟨L',r,e,q⟩:=frzL2_rep hH (us:=us.toList) (.refl G G.lim) (by simpa using hn) (fun i a b=>by
   rw[Array.getElem_toList]
   exact hr i (by simpa using a) b) h1
  exact⟨L',r,.tuple us _ (by simpa using e) fun i a b=>by
   have:=q i (by simpa using a) b
   rwa [Array.getElem_toList]at this⟩
 ·exact frz2_rep hH (.refl _ _) hr h
theorem data_out{H H1:Heap}(hH:HRep P G w H){v x:AV}{e:Ending}(h:PostOk P G.bare w (.ret v) H1 e w')(hd:dataOut H1 v=some x):∃u G1,e=.returned u∧Grow G w G1 w'∧Rep G1 w' u x:=by
 obtain⟨G2,h1,h2,u,rfl,h4⟩:=h
 unfold dataOut at hd
 split at hd
 ·rename_i hv
  simp only[Option.some.injEq]at hd
  subst hd
  have r1:=h4.shut
  exact⟨u,_,rfl,bare_grow hH h1 h2.base,r1.data (isData_data hv r1) fun _=>Nat.le_refl _⟩
 ·split at hd
  ·rename_i y hf
   split at hd
   ·rename_i hv
    simp only[Option.some.injEq]at hd
    subst hd
    obtain⟨L,hR,hr⟩:=frzA_rep h2 h4 hf
    have hst:Step G.bare w {G2 with lim:=L} w':=by
     refine⟨h1.os,h1.tape,h1.output,h1.size,fun b=>Nat.le_trans (h1.lim b) (hR.1 b),h1.cell,h1.nb,h1.hole,h1.μ,h1.μnew,h1.mc,h1.nt,h1.ext,h1.τ,h1.tes,h1.τnew,h1.nl,h1.ln,h1.lnew,fun b hb a1 a2 a3=> ?_⟩
     obtain⟨f1,f2⟩:=h1.frame b hb a1 a2 a3
     refine⟨f1,?_⟩
     refine Eq.trans (Classical.byContradiction fun hne=> ?_) f2
     obtain⟨k,hk,e⟩:=hR.2 b hne
     rcases h1.μnew k hk with⟨j,hj,-⟩|h3
     ·exact absurd hj.1 (by simp[Ghost.bare])
     ·omega
    have hbase:Base {G2 with lim:=L} w':=fun b hb=>by
     refine Eq.trans (Classical.byContradiction fun hne=> ?_) (h2.base b hb)
     obtain⟨k,hk,e⟩:=hR.2 b hne
     have:=h2.μlt hk
     omega
    have r1:=hr.shut
    exact⟨u,_,rfl,bare_grow hH hst hbase,r1.data (isData_data hv r1) fun _=>Nat.le_refl _⟩
   ·cases hd
  ·cases hd
end Go.Aa
set_option linter.unusedVariables false
set_option linter.unusedSimpArgs false
namespace Go.Aa
open Go.RowKit
variable{P:Program}{G G':Ghost}{w w':World}
theorem shut_args{vs:Array Value}{az:List AV}(h:Args G w vs az):Args G w vs (az.map shutA):=by
 refine⟨by simpa using h.1,fun i h1 h2=> ?_⟩
 have:=(h.2 i h1 (by simpa using h2)).shut
 simpa using this
theorem args_of{n:Nat}{a:Act}{T:Env}{os:Array Operand}{xs:List Opd}(hT:TRep G w n a.tmps T)(h:cOpds os.toList=some xs):Args G w (os.map a.eval) (xs.map fun x=>shutA (ev T x)):=by
 have:=shut_args (az:=xs.map (ev T)) ⟨(cOpds_map (a:=a) hT h).1,(cOpds_map (a:=a) hT h).2⟩
 rwa [List.map_map]at this
theorem callOk_upon{ro:Option Nat}{o:Oper}{a:Act}{f:FuncId}{vs:Array Value}{R:Ending→World→Prop}{next:Act→World→Prop}{Q:Exit→Act→World→Prop}(h:CallOk P f vs w R)
 (hr:∀u w',R (.returned u) w'→next (a.put o.dst u) w')(hp:∀ch w',R (.panicked ch) w'→Q (.panic ch) a w')(ho:∀w',¬R .outgrown w'):o.uponIn (W ro) 0 P a next Q ((callFunc f vs).run P w):=by
 rcases h with⟨w1,h1,h2,h3⟩|⟨u,w',h1,h2⟩
 ·rw[h1,Oper.uponIn_enter]
  refine⟨fun h=>absurd h (by simp[W,Fence.wide]),(calls_W (ro:=ro) h2).mono fun e w' he=> ?_⟩
  cases e with
  |returned u=>exact hr _ _ he
  |panicked ch=>exact hp _ _ he
  |outgrown=>exact absurd he (ho w')
 ·rw[h1,Oper.uponIn_value]
  exact hr _ _ h2
theorem postOk_outgrown{r:ARes}{H:Heap}:¬PostOk P G w r H .outgrown w':=by
 rintro⟨G',_,_,h⟩
 cases r<;>obtain⟨u,h,_⟩:=h<;>cases h
theorem data_post{H H':Heap}(hH:HRep P G w H){r:ARes}{e:Ending}(h:PostOk P G.bare w r H' e w'):
 ∃G1,Grow G w G1 w'∧∃G2,G2.lim=G1.lim∧EndOk G2 w' e r:=by
 obtain⟨G2,h1,h2,h3⟩:=h
 exact⟨_,bare_grow hH h1 h2.base,G2,rfl,h3⟩
theorem callE_sound{call:CallF}(hc:CallSound P call){a:Act}{H:Heap}(hH:HRep P G w H){g:FuncId}{az:List AV}{vs:Array Value}(hargs:Args G w vs az){out:Out}(h:callE call g az H=some out){ro:Option Nat}{o:Oper}
 {next:Act→World→Prop}{Q:Exit→Act→World→Prop}
 (hval:∀v H' r w' G',out=.val v H'→Step G w G' w'→HRep P G' w' H'→Rep G' w' r v→next (a.put o.dst r) w')
 (hpan:∀v H' r w' G',out=.pan v H'→Step G w G' w'→HRep P G' w' H'→Rep G' w' r v→Q (.panic [{v:=r,recovered:=false}]) a w'):o.uponIn (W ro) 0 P a next Q ((callFunc g vs).run P w):=by
 unfold callE at h
 have hcall:=fun r H' hr=>hc.fn g az H r H' hr G w vs hH hargs
 split at h
 ·rename_i v H' hr
  simp only[Option.some.injEq]at h
  subst h
  refine callOk_upon (hcall _ _ hr) (fun u w' hp=> ?_) (fun ch w' hp=> ?_) (fun w'=>postOk_outgrown)
  ·obtain⟨G1,hs,hh,u',he,hrep⟩:=hp
   cases he
   obtain⟨G2,k1,k2,k3⟩:=trunc_sound hs hh hrep.shut
   exact hval _ _ _ _ G2 rfl k1 (by rw[←hH.nb,←hH.nt];exact k2) k3
  ·obtain⟨G1,hs,hh,u',he,hrep⟩:=hp
   cases he
 ·rename_i v H' hr
  simp only[Option.some.injEq]at h
  subst h
  refine callOk_upon (hcall _ _ hr) (fun u w' hp=> ?_) (fun ch w' hp=> ?_) (fun w'=>postOk_outgrown)
  ·obtain⟨G1,hs,hh,u',he,hrep⟩:=hp
   cases he
  ·obtain⟨G1,hs,hh,u',he,hrep⟩:=hp
   cases he
   obtain⟨G2,k1,k2,k3⟩:=trunc_sound hs hh hrep
   exact hpan _ _ _ _ G2 rfl k1 (by rw[←hH.nb,←hH.nt];exact k2) k3
 ·cases h
theorem call_sound{call:CallF}(hc:CallSound P call){n:Nat}{a:Act}{T:Env}{H:Heap}(hT:TRep G w n a.tmps T)(hH:HRep P G w H){f:Operand}{args:Array Operand}{fo:Opd}{xs:List Opd}
 (hf:cOpd f=some fo)(hx:cOpds args.toList=some xs){out:Out}(h:callV call (ev T fo) (xs.map fun x=>shutA (ev T x)) H=some out){ro:Option Nat}{o:Oper}{argTypes:Array TypeId}
 (ho:o.op=.call {callee:=.value f,args:=args,argTypes:=argTypes}){next:Act→World→Prop}{Q:Exit→Act→World→Prop}
 (hval:∀v H' r w' G',out=.val v H'→Step G w G' w'→HRep P G' w' H'→Rep G' w' r v→next (a.put o.dst r) w')
 (hpan:∀v H' r w' G',out=.pan v H'→Step G w G' w'→HRep P G' w' H'→Rep G' w' r v→Q (.panic [{v:=r,recovered:=false}]) a w'):o.wpIn (W ro) 0 P a w next Q:=by
 refine⟨fun _ _=>trivial,?_⟩
 rw[Oper.semAt_eq _ _ _ (fun c hcon=>by rw[ho]at hcon;cases hcon)]
 have hex:execOp a.eval o=(do let d←Deferred.ofValue (a.eval f) (args.map a.eval);invoke d.target d.args):=by
  unfold execOp;rw[ho];rfl
 rw[hex]
 have rf:=cOpd_rep (a:=a) hT hf
 have ra:=args_of (a:=a) hT hx
 generalize(xs.map fun x=>shutA (ev T x))=az at h ra
 generalize args.map a.eval=vs at ra⊢
 unfold callV at h
 split at h
 ·rename_i g caps hev
  rw[hev]at rf
  generalize hu:a.eval f=u at rf
  cases rf with
  |func _ us _ hn hr=>
  have rc:Args G w us caps:=⟨hn,hr⟩
  have rall:=ra.append rc
  have hrun:(do let d←Deferred.ofValue (.func (.func g) #[] us) vs;invoke d.target d.args:Sem Next)=callFunc g (vs++us):=by
   simp only[Deferred.ofValue]
   show callFunc g (#[]++vs++us)=_
   simp
  rw[hrun]
  split at h
  ·rename_i hd
   simp only[Bool.and_eq_true,List.all_eq_true]at hd
   have hdall:∀x∈az++caps,isData x=true:=by
    intro x hx
    rcases List.mem_append.1 hx with hx|hx
    ·exact hd.1 x hx
    ·have:=hd.2 x hx
     cases x<;>first|exact this|simp[data0]at this
   have hcall:=fun r H' hr=>hc.fn g (az++caps) Heap.nil r H' hr G.bare w (vs++us) (bare_heap hH) (bare_args rall hdall)
   split at h
   ·rename_i v H' hr
    split at h
    ·rename_i x hdat
     simp only[Option.some.injEq]at h
     subst h
     refine callOk_upon (hcall _ _ hr) (fun u w' hp=> ?_) (fun ch w' hp=> ?_) (fun w'=>postOk_outgrown)
     ·obtain⟨u',G1,he,hg,hrep⟩:=data_out (H:=H) hH hp hdat
      cases he
      exact hval _ _ _ _ G1 rfl (hg.step hH.base) (hH.grow hg) hrep
     ·obtain⟨u',G1,he,hg,hrep⟩:=data_out (H:=H) hH hp hdat
      cases he
    ·exact callE_sound hc hH rall h hval hpan
   ·rename_i v H' hr
    split at h<;>simp only[Option.some.injEq,reduceCtorEq]at h
    rename_i hdat
    subst h
    refine callOk_upon (hcall _ _ hr) (fun u w' hp=> ?_) (fun ch w' hp=> ?_) (fun w'=>postOk_outgrown)
    ·obtain⟨G1,hg,G2,hlim,u',he,hrep⟩:=data_post (H:=H) hH hp
     cases he
    ·obtain⟨G1,hg,G2,hlim,u',he,hrep⟩:=data_post (H:=H) hH hp
     cases he
     exact hpan _ _ _ _ G1 rfl (hg.step hH.base) (hH.grow hg) (hrep.data (isData_data hdat hrep) fun b=>by rw[hlim];exact Nat.le_refl _)
   ·cases h
  ·exact callE_sound hc hH rall h hval hpan
 ·rename_i l hev
  rw[hev]at rf
  generalize hu:a.eval f=u at rf
  cases rf with
  |yield _ hl=>
  have hl':l<H.loops.length:=by rw[←hH.nl];exact hl
  have hrun:(do let d←Deferred.ofValue (.func (.yield (G.ln l)) #[] #[]) vs;invoke d.target d.args:Sem Next)=Instr.yield (G.ln l) vs:=by
   simp only[Deferred.ofValue]
   show Instr.yield (G.ln l) (#[]++vs)=_
   simp
  rw[hrun]
  have hcall:=fun r H' hr=>hc.yl l az H r H' hr G w vs hH ra hl'
  split at h
  ·rename_i v H' hr
   simp only[Option.some.injEq]at h
   subst h
   obtain⟨rec,h1,h2,h3⟩:=hcall _ _ hr
   rw[run_yield h1 h2,Oper.uponIn_round]
   refine⟨fun h=>absurd h (by simp[W,Fence.wide]),RoundIn.mono (F:=W ro) h3 fun e w' hp=> ?_⟩
   obtain⟨G1,hs,hh,u',he,hrep⟩:=hp
   subst he
   obtain⟨G2,k1,k2,k3⟩:=trunc_sound hs hh hrep
   exact hval _ _ _ _ G2 rfl k1 (by rw[←hH.nb,←hH.nt];exact k2) k3
  ·rename_i v H' hr
   simp only[Option.some.injEq]at h
   subst h
   obtain⟨rec,h1,h2,h3⟩:=hcall _ _ hr
   rw[run_yield h1 h2,Oper.uponIn_round]
   refine⟨fun h=>absurd h (by simp[W,Fence.wide]),RoundIn.mono (F:=W ro) h3 fun e w' hp=> ?_⟩
   obtain⟨G1,hs,hh,u',he,hrep⟩:=hp
   subst he
   obtain⟨G2,k1,k2,k3⟩:=trunc_sound hs hh hrep
   exact hpan _ _ _ _ G2 rfl k1 (by rw[←hH.nb,←hH.nt];exact k2) k3
  ·cases h
 ·cases h
theorem callW_sound{call:CallF}(hc:CallSound P call){n:Nat}{a:Act}{T:Env}{H:Heap}(hT:TRep G w n a.tmps T)(hH:HRep P G w H){f:Operand}{args:Array Operand}{fo:Opd}{xs:List Opd}
 (hf:cOpd f=some fo)(hx:cOpds args.toList=some xs){out:Out}(h:callW call (ev T fo) (xs.map fun x=>shutA (ev T x)) H=some out){ro:Option Nat}{o:Oper}{argTypes:Array TypeId}
 (ho:o.op=.call {callee:=.value f,args:=args,argTypes:=argTypes}){next:Act→World→Prop}{Q:Exit→Act→World→Prop}
 (hval:∀v H' r w' G',out=.val v H'→Step G w G' w'→HRep P G' w' H'→Rep G' w' r v→next (a.put o.dst r) w')
 (hpan:∀v H' r w' G',out=.pan v H'→Step G w G' w'→HRep P G' w' H'→Rep G' w' r v→Q (.panic [{v:=r,recovered:=false}]) a w'):o.wpIn (W ro) 0 P a w next Q:=by
 refine⟨fun _ _=>trivial,?_⟩
 rw[Oper.semAt_eq _ _ _ (fun c hcon=>by rw[ho]at hcon;cases hcon)]
 have hex:execOp a.eval o=(do let d←Deferred.ofValue (a.eval f) (args.map a.eval);invoke d.target d.args):=by
  unfold execOp;rw[ho];rfl
 rw[hex]
 have rf:=cOpd_rep (a:=a) hT hf
 have ra:=args_of (a:=a) hT hx
 generalize(xs.map fun x=>shutA (ev T x))=az at h ra
 generalize args.map a.eval=vs at ra⊢
 unfold callW at h
 split at h
 ·rename_i g caps hev
  rw[hev]at rf
  generalize hu:a.eval f=u at rf
  cases rf with
  |func _ us _ hn hr=>
  have rc:Args G w us caps:=⟨hn,hr⟩
  have rall:=ra.append rc
  have hrun:(do let d←Deferred.ofValue (.func (.func g) #[] us) vs;invoke d.target d.args:Sem Next)=callFunc g (vs++us):=by
   simp only[Deferred.ofValue]
   show callFunc g (#[]++vs++us)=_
   simp
  rw[hrun]
  split at h
  ·rename_i hd
   simp only[Bool.and_eq_true,List.all_eq_true]at hd
   have hdall:∀x∈az++caps,isData x=true:=by
    intro x hx
    rcases List.mem_append.1 hx with hx|hx
    ·exact hd.1 x hx
    ·have:=hd.2 x hx
     cases x<;>first|exact this|simp[data0]at this
   have hcall:=fun r H' hr=>hc.fn g (az++caps) Heap.nil r H' hr G.bare w (vs++us) (bare_heap hH) (bare_args rall hdall)
   split at h
   ·rename_i v H' hr
    split at h
    ·rename_i hdat
     simp only[Option.some.injEq]at h
     subst h
     refine callOk_upon (hcall _ _ hr) (fun u w' hp=> ?_) (fun ch w' hp=> ?_) (fun w'=>postOk_outgrown)
     ·obtain⟨G1,hg,G2,hlim,u',he,hrep⟩:=data_post (H:=H) hH hp
      cases he
      have r1:=hrep.shut
      exact hval _ _ _ _ G1 rfl (hg.step hH.base) (hH.grow hg) (r1.data (isData_data hdat r1) fun b=>by rw[hlim];exact Nat.le_refl _)
     ·obtain⟨G1,hg,G2,hlim,u',he,hrep⟩:=data_post (H:=H) hH hp
      cases he
    ·exact callE_sound hc hH rall h hval hpan
   ·rename_i v H' hr
    split at h<;>simp only[Option.some.injEq,reduceCtorEq]at h
    rename_i hdat
    subst h
    refine callOk_upon (hcall _ _ hr) (fun u w' hp=> ?_) (fun ch w' hp=> ?_) (fun w'=>postOk_outgrown)
    ·obtain⟨G1,hg,G2,hlim,u',he,hrep⟩:=data_post (H:=H) hH hp
     cases he
    ·obtain⟨G1,hg,G2,hlim,u',he,hrep⟩:=data_post (H:=H) hH hp
     cases he
     exact hpan _ _ _ _ G1 rfl (hg.step hH.base) (hH.grow hg) (hrep.data (isData_data hdat hrep) fun b=>by rw[hlim];exact Nat.le_refl _)
   ·cases h
  ·exact callE_sound hc hH rall h hval hpan
 ·cases h
theorem opStep_pan{call:CallF}{op:AOp}{T:Env}{H H':Heap}{v:AV}(h:opStep call op T H=some (.pan v H')):clsOf op=.call∨(∃x t u,op=.panic x∧ev T x=.iface t u∧v=.iface t u∧H'=H):=by
 have pure:∀o:Option AV,(match o with|some v=>some (Out.val v H)|none=>none)≠some (.pan v H'):=by
  intro o;cases o<;>simp
 cases op with
 |call f az=>exact .inl rfl
 |callM f az=>exact .inl rfl
 |bsliceM es x=>simp only[opStep]at h;split at h<;>simp at h
 |appendM es b x y=>simp only[opStep]at h;split at h<;>simp at h
 |makeM es b z x=>simp only[opStep]at h;split at h<;>simp at h
 |clearM z x=>simp only[opStep]at h;split at h<;>simp at h
 |panic x=>
  simp only[opStep]at h
  split at h<;>simp only[Option.some.injEq,reduceCtorEq,Out.pan.injEq]at h
  rename_i t u he
  exact .inr ⟨x,t,u,rfl,he,h.1.symm,h.2.symm⟩
 |box x=>simp only[opStep]at h;split at h<;>simp at h
 |load g n x=>simp only[opStep]at h;split at h<;>simp at h
 |store n x v=>simp only[opStep]at h;split at h<;>simp at h
 |append es b x y=>simp only[opStep]at h;split at h<;>simp at h
 |_=>
  simp only[opStep]at h
  first
   |(simp[pureOp]at h;done)
   |exact absurd h (pure _)
theorem cBin_cls{op:BinOp}{t:TypeId}{x y:Opd}{a:AOp}(h:cBin P op t x y=some a):clsOf a=.pure:=by
 unfold cBin at h
 split at h
 ·simp only[Option.some.injEq]at h;subst h;rfl
 ·split at h
  ·split at h<;>simp only[Option.some.injEq,reduceCtorEq]at h<;>subst h<;>rfl
  ·split at h<;>simp only[Option.some.injEq,reduceCtorEq]at h<;>subst h<;>rfl
theorem cOp_cls{mu:Bool}{o:Op}{op:AOp}(h:cOp P mu o=some op)(hc:clsOf op=.call):∃g args tys f az,o=.call {callee:=.value g,args:=args,argTypes:=tys}∧cOpd g=some f∧cOpds args.toList=some az∧op=(if mu=true then .callM f az else .call f az):=by
 cases o with
 |call c=>
  obtain⟨callee,args,tys⟩:=c
  cases callee with
  |value g=>
   simp only[cOp]at h
   split at h<;>simp only[Option.some.injEq,reduceCtorEq]at h
   rename_i f' az' h1 h2
   exact⟨g,args,tys,f',az',rfl,h1,h2,h.symm⟩
  |invoke r m=>simp[cOp]at h
  |builtin b=>
   exfalso
   cases b<;>simp only[cOp,reduceCtorEq]at h<;>(repeat' split at h)<;>first
    |(simp at h;done)
    |(simp only[Option.some.injEq]at h;subst h;cases mu<;>simp[clsOf]at hc;done)
    |(simp only[Option.map_eq_some_iff]at h;obtain⟨z,-,rfl⟩:=h;simp[clsOf]at hc)
    |(simp only[Option.some.injEq]at h;subst h;simp[clsOf]at hc)
 |binOp op t x y yt=>
  exfalso
  simp only[cOp]at h
  (repeat' split at h)<;>first
    |(simp at h;done)
    |(have:=cBin_cls h;rw[this]at hc;cases hc)
    |(simp only[Option.some.injEq]at h;subst h;cases hc)
 |buildSlice t n ps=>
  exfalso
  simp only[cOp]at h
  (repeat' split at h)<;>first
    |(simp at h;done)
    |(simp only[Option.some.injEq]at h;subst h;cases mu<;>cases hc)
 |makeFunc fn first caps=>
  exfalso
  cases fn<;>simp only[cOp,reduceCtorEq]at h
  split at h<;>first
   |(simp at h;done)
   |(simp only[Option.map_eq_some_iff]at h;obtain⟨z,-,rfl⟩:=h;cases hc)
 |_=>
  exfalso
  simp only[cOp]at h
  first
   |(simp at h;done)
   |(simp only[Option.map_eq_some_iff]at h;obtain⟨z,-,rfl⟩:=h;cases hc;done)
   |((repeat' split at h)<;>first
      |(simp at h;done)
      |(simp only[Option.some.injEq]at h;subst h;cases hc;done)
      |(simp only[Option.map_eq_some_iff]at h;obtain⟨z,-,rfl⟩:=h;cases hc;done)
      |(simp only[Option.some.injEq]at h;subst h;split at hc<;>cases hc))
theorem cOp_panic{mu:Bool}{o:Op}{x:Opd}(h:cOp P mu o=some (.panic x)):∃y,o=.panic y∧cOpd y=some x:=by
 cases o with
 |panic y=>
  simp only[cOp,Option.map_eq_some_iff,AOp.panic.injEq]at h
  obtain⟨z,hz,rfl⟩:=h
  exact⟨y,rfl,hz⟩
 |call c=>
  exfalso
  obtain⟨callee,args,tys⟩:=c
  cases callee with
  |value g=>
   simp only[cOp]at h
   split at h<;>first
    |(simp at h;done)
    |(simp only[Option.some.injEq]at h;cases mu<;>simp at h)
  |invoke r m=>simp[cOp]at h
  |builtin b=>
   cases b<;>simp only[cOp,reduceCtorEq]at h<;>(repeat' split at h)<;>simp at h
 |binOp op t x y yt=>
  exfalso
  simp only[cOp]at h
  (repeat' split at h)<;>first
    |(simp at h;done)
    |(have:=cBin_cls h;simp[clsOf]at this)
 |makeFunc fn first caps=>
  exfalso
  cases fn<;>simp only[cOp,reduceCtorEq]at h
  split at h<;>simp at h
 |_=>
  exfalso
  simp only[cOp]at h
  first
   |(simp at h;done)
   |((repeat' split at h)<;>simp at h)
theorem cOp_defer{mu:Bool}{o:Op}{op:AOp}(h:cOp P mu o=some op)(c:Call):o≠.defer c:=by
 rintro rfl;simp[cOp]at h
theorem oper_sound{call:CallF}(hc:CallSound P call){n:Nat}{a:Act}{T:Env}{H:Heap}(hT:TRep G w n a.tmps T)(hH:HRep P G w H){o:Oper}{op:AOp}{mu:Bool}(hcp:cOp P mu o.op=some op){out:Out}
 (h:opStep call op T H=some out){ro:Option Nat}{next:Act→World→Prop}{Q:Exit→Act→World→Prop}
 (hval:∀v H' r w' G',out=.val v H'→Step G w G' w'→HRep P G' w' H'→Rep G' w' r v→next (a.put o.dst r) w')
 (hpan:∀v H' r w' G',out=.pan v H'→Step G w G' w'→HRep P G' w' H'→Rep G' w' r v→Q (.panic [{v:=r,recovered:=false}]) a w'):o.wpIn (W ro) 0 P a w next Q:=by
 by_cases hcls:clsOf op=.call
 ·obtain⟨g,args,tys,f,az,ho,h1,h2,rfl⟩:=cOp_cls hcp hcls
  cases mu with
  |true=>exact callW_sound hc hT hH h1 h2 h ho hval hpan
  |false=>exact call_sound hc hT hH h1 h2 h ho hval hpan
 ·refine⟨fun _ _=>trivial,?_⟩
  rw[Oper.semAt_eq _ _ _ (cOp_defer hcp)]
  cases out with
  |val v H'=>
   obtain⟨nx,r,w',G',h1,h2,h3,h4,h5⟩:=op_sound hT hH hcp hcls h
   rw[h1]
   rcases h2 with rfl|⟨rfl,rfl⟩
   ·rw[Oper.uponIn_value];exact hval _ _ _ _ _ rfl h3 h4 h5
   ·rw[Oper.uponIn_skip];exact hval _ _ _ _ _ rfl h3 h4 h5
  |pan v H'=>
   rcases opStep_pan h with hcl|⟨x,t,u,rfl,he,rfl,rfl⟩
   ·exact absurd hcl hcls
   ·have ho:=cOp_panic hcp
    obtain⟨y,hy,hz⟩:=ho
    have rx:=cOpd_rep (a:=a) hT hz
    rw[he]at rx
    generalize hu:a.eval y=u' at rx
    cases rx with
    |iface _ uv _ hr=>
    have:(execOp a.eval o).run P w=.halt (.panic (.iface t uv)) w:=by
     unfold execOp;rw[hy];simp[hu,Instr.panic,goPanic,Sem.run_bind]
    rw[this,Oper.uponIn_panic]
    exact hpan _ _ _ _ G rfl (.refl _ _) hH (.iface _ _ _ hr)
end Go.Aa
set_option linter.unusedVariables false
set_option linter.unusedSimpArgs false
namespace Go.Aa
open Go.RowKit
variable{P:Program}{G G':Ghost}{w w':World}
variable{mu:Bool}
theorem cOpers_get{nt:Nat}{ops:Array Oper}:∀{l:List Oper}{acc:List (List Nat)}{az:List AOper},cOpers P mu nt ops acc l=some az→
 az.length=l.length∧∀i(h1:i<l.length)(h2:i<az.length),cOper P mu nt ops (acc++(az.take i).map (·.deps)) l[i]=some az[i]
 |[],acc,az,h=>by
  simp only[cOpers,Option.some.injEq]at h
  subst h
  exact⟨rfl,fun i h1=>absurd h1 (by simp)⟩
 |o::r,acc,az,h=>by
  simp only[cOpers]at h
  split at h
  ·cases h
  ·rename_i a ha
   split at h
   ·rename_i az' hr
    simp only[Option.some.injEq]at h
    subst h
    obtain⟨i1,i2⟩:=cOpers_get hr
    refine⟨by simp[i1],fun i h1 h2=> ?_⟩
    cases i with
    |zero=>simpa using ha
    |succ i=>
     have:=i2 i (by simpa using h1) (by simpa using h2)
     simpa using this
   ·cases h
theorem cOper_inv{nt:Nat}{ops:Array Oper}{acc:List (List Nat)}{o:Oper}{ao:AOper}(h:cOper P mu nt ops acc o=some ao):
 o.dst.all (fun d=>decide (d<nt))=true∧cOp P (mu&& !feeds ops o) o.op=some ao.op∧ao.dst=o.dst∧ao.deps=depsOf acc o.after.toList∧
  ((o.guard=none∧ao.guard=none)∨∃j want g,o.guard=some (j,want)∧(ops[j]?).bind (·.dst)=some g∧ao.guard=some (g,want)):=by
 unfold cOper at h
 split at h
 ·cases h
 ·rename_i hd
  split at h
  ·cases h
  ·rename_i op hop
   split at h
   ·rename_i hg
    simp only[Option.some.injEq]at h
    subst h
    exact⟨by simpa using hd,hop,rfl,rfl,.inl ⟨hg,rfl⟩⟩
   ·rename_i j want hg
    split at h
    ·rename_i g hgd
     simp only[Option.some.injEq]at h
     subst h
     exact⟨by simpa using hd,hop,rfl,rfl,.inr ⟨j,want,g,hg,hgd,rfl⟩⟩
    ·cases h
theorem wanted_sound{nt:Nat}{ops:Array Oper}{acc:List (List Nat)}{o:Oper}{ao:AOper}{n:Nat}{a:Act}{T:Env}{b:Bool}(hc:cOper P mu nt ops acc o=some ao)(hT:TRep G w n a.tmps T)(h:wantedA ao T=some b):
 Region.wanted o (yielded ops a.tmps)=b:=by
 obtain⟨_,_,_,_,hg⟩:=cOper_inv hc
 unfold wantedA at h
 rcases hg with⟨h1,h2⟩|⟨j,want,g,h1,h2,h3⟩
 ·rw[h2]at h
  simp only[Option.some.injEq]at h
  simp[Region.wanted,h1,h]
 ·rw[h3]at h
  simp only at h
  split at h<;>simp only[Option.some.injEq,reduceCtorEq]at h
  rotate_left
  ·rename_i hb
   have hr:=hT.get g
   rw[hb]at hr
   have hv:∀b,a.tmps[g]?≠some (.bool b):=by
    intro b hgg
    rw[show a.tmps.getD g undef=.bool b by simp[Array.getD_eq_getD_getElem?,hgg]]at hr
    cases hr
   simp only[Region.wanted,h1,yielded,h2,Option.bind_some]
   rw[←h]
   cases hgg:a.tmps[g]? with
   |none=>rfl
   |some y=>
    cases y with
    |bool b=>exact absurd hgg (hv b)
    |_=>rfl
  rename_i b0 hb
  have hr:=hT.get g
  rw[hb]at hr
  have hv:a.tmps[g]?=some (.bool b0):=by
   generalize hx:a.tmps.getD g undef=x at hr
   cases hr
   simp only[Array.getD_eq_getD_getElem?]at hx
   cases hgg:a.tmps[g]? with
   |none=>rw[hgg]at hx;simp[undef]at hx
   |some y=>rw[hgg]at hx;simpa using hx
  simp only[Region.wanted,h1,yielded,h2,Option.bind_some,hv]
  rw[←h]
  cases b0<;>cases want<;>rfl
def exec(step:AOp→Env→Heap→Option Out)(o:AOper)(T:Env)(H:Heap):Option Out:=
 match wantedA o T with
 |some true=>step o.op T H
 |some false=>some (.val (.tuple []) H)
 |none=>none
def RegPost(P:Program)(G:Ghost)(w:World)(n:Nat)(df:List Deferred)(out:OutE):Exit→Act→World→Prop
 |.normal,a',w'=>∃G' T' H',out=.env T' H'∧Step G w G' w'∧TRep G' w' n a'.tmps T'∧HRep P G' w' H'∧a'.defers=df
 |.panic ch,a',w'=>∃r v H' G',ch=[{v:=r,recovered:=false}]∧out=.pan v H'∧Step G w G' w'∧HRep P G' w' H'∧Rep G' w' r v∧a'.defers=df
 |_,_,_=>False
theorem RegPost.before{n:Nat}{df:List Deferred}{out:OutE}{e:Exit}{a':Act}{w1 w2:World}{G1:Ghost}(h:RegPost P G1 w1 n df out e a' w2)(hst:Step G w G1 w1):RegPost P G w n df out e a' w2:=by
 cases e with
 |normal=>obtain⟨G',T',H',h1,h2,h3⟩:=h;exact⟨G',T',H',h1,hst.trans h2,h3⟩
 |panic ch=>obtain⟨r,v,H',G',h0,h1,h2,h3⟩:=h;exact⟨r,v,H',G',h0,h1,hst.trans h2,h3⟩
 |_=>exact h.elim
theorem put_defers(a:Act)(d:Option Tmp)(v:Value):(a.put d v).defers=a.defers:=by cases d<;>rfl
theorem index_sound{call:CallF}(hc:CallSound P call){nt:Nat}{ops:Array Oper}{acc:List (List Nat)}{i:Nat}{o:Oper}{ao:AOper}(hi:ops[i]?=some o)(hco:cOper P mu nt ops acc o=some ao)
 {a:Act}{T:Env}{H:Heap}(hT:TRep G w nt a.tmps T)(hH:HRep P G w H){out:Out}(h:exec (opStep call) ao T H=some out){ro:Option Nat}{Q:Exit→Act→World→Prop}{K:Act→World→Prop}
 (hval:∀v H' a' w' G',out=.val v H'→Step G w G' w'→HRep P G' w' H'→TRep G' w' nt a'.tmps (setD T ao.dst v)→a'.defers=a.defers→K a' w')
 (hpan:∀v H' r w' G',out=.pan v H'→Step G w G' w'→HRep P G' w' H'→Rep G' w' r v→Q (.panic [{v:=r,recovered:=false}]) a w'):wpOpIn (W ro) 0 P ops Q i K a w:=by
 obtain⟨hd,hop,hdst,_,_⟩:=cOper_inv hco
 have hset:∀v r w' G',Step G w G' w'→Rep G' w' r v→TRep G' w' nt (a.put o.dst r).tmps (setD T ao.dst v):=fun v r w' G' hst hr=>by
  rw[hdst]
  exact(hT.step hst).setD (df:=a.defers) hd hr
 unfold exec at h
 simp only[wpOpIn,hi]
 split at h
 ·rename_i hw
  rw[if_pos (wanted_sound hco hT hw)]
  exact oper_sound hc hT hH hop h (fun v H' r w' G' e hst hh hr=>hval v H' _ w' G' e hst hh (hset _ _ _ _ hst hr) (put_defers _ _ _)) hpan
 ·rename_i hw
  simp only[Option.some.injEq]at h
  subst h
  rw[if_neg (by rw[wanted_sound hco hT hw];simp)]
  exact⟨fun _ _=>trivial,hval _ _ _ w G rfl (.refl _ _) hH (hset _ _ _ _ (.refl _ _) (.tuple #[] [] rfl (fun i h1=>absurd h1 (by simp)))) (put_defers _ _ _)⟩
 ·cases h
theorem runOps_cons{call:CallF}{o:AOper}{r:List AOper}{T:Env}{H:Heap}{out:OutE}(h:runOps call (o::r) T H=some out):
 ∃o1,exec (opStep call) o T H=some o1∧(match o1 with|.val v H'=>runOps call r (setD T o.dst v) H'|.pan v H'=>some (.pan v H'))=some out:=by
 simp only[runOps]at h
 unfold exec
 cases hw:wantedA o T with
 |none=>rw[hw]at h;cases h
 |some b=>
  rw[hw]at h
  cases b with
  |false=>exact⟨_,rfl,h⟩
  |true=>
   simp only at h⊢
   cases hs:opStep call o.op T H with
   |none=>rw[hs]at h;cases h
   |some x=>rw[hs]at h;exact⟨x,rfl,by cases x<;>exact h⟩
theorem runOps_bare{call:CallF}:∀(l:List AOper)(T:Env)(H:Heap),runOps call (l.map AOper.bare) T H=runOps call l T H
 |[],T,H=>rfl
 |o::l,T,H=>by
  simp only[List.map_cons,runOps]
  have hw:wantedA o.bare T=wantedA o T:=rfl
  rw[hw]
  cases wantedA o T with
  |none=>rfl
  |some b=>
   cases b with
   |false=>exact runOps_bare l _ _
   |true=>
    simp only
    have ho:opStep call o.bare.op T H=opStep call o.op T H:=rfl
    rw[ho]
    cases opStep call o.op T H with
    |none=>rfl
    |some x=>
     cases x with
     |val v H'=>exact runOps_bare l _ _
     |pan v H'=>rfl
theorem seq_from{call:CallF}(hc:CallSound P call){nt:Nat}{ops:Array Oper}{az:List AOper}(hco:cOpers P mu nt ops [] ops.toList=some az){ro:Option Nat}{Q:Exit→Act→World→Prop}:
 ∀(m k:Nat),k+m=ops.size→∀{G:Ghost}{w:World}{a:Act}{T:Env}{H:Heap}{out:OutE},TRep G w nt a.tmps T→HRep P G w H→runOps call (az.drop k) T H=some out→
  (∀e a' w',RegPost P G w nt a.defers out e a' w'→Q e a' w')→wpOpsIn (W ro) 0 P ops Q (List.range' k m) a w:=by
 obtain⟨hlen,hget⟩:=cOpers_get hco
 intro m
 induction m with
 |zero=>
  intro k hk G w a T H out hT hH h hQ
  have:az.drop k=[]:=List.drop_eq_nil_of_le (by simp at hlen;omega)
  rw[this]at h
  simp only[runOps,Option.some.injEq]at h
  subst h
  exact hQ _ _ _ ⟨G,T,H,rfl,.refl _ _,hT,hH,rfl⟩
 |succ m ih=>
  intro k hk G w a T H out hT hH h hQ
  have hk':k<az.length:=by simp at hlen;omega
  have hks:k<ops.size:=by omega
  rw[List.drop_eq_getElem_cons hk']at h
  rw[List.range'_succ,wpOpsIn_cons]
  have hci:=hget k (by simpa using hks) hk'
  obtain⟨o1,h1,h2⟩:=runOps_cons h
  refine index_sound hc (o:=ops[k]) (by simp[hks]) (by simpa using hci) hT hH h1 (fun v H' a' w' G' e hst hh ht hdf=> ?_) (fun v H' r w' G' e hst hh hr=> ?_)
  ·subst e
   exact ih (k+1) (by omega) ht hh h2 fun e a2 w2 hq=>hQ _ _ _ (by rw[hdf]at hq;exact hq.before hst)
  ·subst e
   simp only[Option.some.injEq]at h2
   subst h2
   exact hQ _ _ _ ⟨r,v,H',G',rfl,rfl,hst,hh,hr,rfl⟩
end Go.Aa
set_option linter.unusedVariables false
set_option linter.unusedSimpArgs false
namespace Go.Aa
open Go.RowKit
variable{P:Program}{G G':Ghost}{w w':World}
variable{mu:Bool}
def rdB:Cls→Bool|.read|.alloc|.store|.call=>true|_=>false
def rdT:Cls→Bool|.app|.call=>true|_=>false
def wrB:Cls→Bool|.alloc|.store=>true|_=>false
def wrT:Cls→Bool|.app=>true|_=>false
theorem compat_spec(c d:Cls)(h:compat c d=true):
 (wrB c=true→rdB d=false)∧(wrT c=true→rdT d=false)∧(wrB d=true→rdB c=false∨(c=.read∧d=.alloc))∧(wrT d=true→rdT c=false)∧c≠.pan∧d≠.pan∧
   (c=.call→wrB d=false∧wrT d=false)∧(d=.call→wrB c=false∧wrT c=false):=by
 revert h;cases c<;>cases d<;>simp[compat,wrB,wrT,rdB,rdT]
theorem wrB_rdB{c:Cls}(h:wrB c=true):rdB c=true:=by revert h;cases c<;>simp[wrB,rdB]
theorem wrT_rdT{c:Cls}(h:wrT c=true):rdT c=true:=by revert h;cases c<;>simp[wrT,rdT]
def Out.heap:Out→Heap
 |.val _ H=>H
 |.pan _ H=>H
def Out.put:Out→Heap→Out
 |.val v _,H=>.val v H
 |.pan v _,H=>.pan v H
def mix(c:Cls)(B:List (List AV))(K:List Nat)(H:Heap):Heap:=⟨if wrB c=true then B else H.boxes,if wrT c=true then K else H.toks,H.loops⟩
theorem mix_same{c:Cls}{H:Heap}{B K}(hb:wrB c=true→B=H.boxes)(ht:wrT c=true→K=H.toks):mix c B K H=H:=by
 unfold mix
 have e1:(if wrB c=true then B else H.boxes)=H.boxes:=by split<;>simp_all
 have e2:(if wrT c=true then K else H.toks)=H.toks:=by split<;>simp_all
 rw[e1,e2]
theorem loadA_boxes{g:Bool}{n:Nat}{H H2:Heap}{v:AV}(h:H2.boxes=H.boxes):loadA g n H2 v=loadA g n H v:=by
 cases v<;>simp[loadA,h]
theorem bslice_frame{es:Nat}{H H2 H':Heap}{l:List AV}{v:AV}(hb:H2.boxes=H.boxes)(h:bsliceA es H l=some (v,H')):H'=⟨H'.boxes,H.toks,H.loops⟩∧bsliceA es H2 l=some (v,⟨H'.boxes,H2.toks,H2.loops⟩)∧∃B,H'.boxes=H.boxes++B:=by
 unfold bsliceA at h⊢
 cases l with
 |nil=>
  simp only[Option.some.injEq,Prod.mk.injEq]at h⊢
  obtain⟨rfl,rfl⟩:=h
  exact⟨rfl,⟨rfl,by rw[←hb]⟩,[],by simp⟩
 |cons x l=>
  simp only at h⊢
  split at h
  ·rename_i hc
   simp only[Option.some.injEq,Prod.mk.injEq]at h
   obtain⟨rfl,rfl⟩:=h
   rw[if_pos hc,hb]
   exact⟨rfl,rfl,_,rfl⟩
  ·cases h
theorem make_frame{es b:Nat}{z:List AV}{H H2 H':Heap}{x v:AV}(hb:H2.boxes=H.boxes)(h:makeA es b z H x=some (v,H')):H'=⟨H'.boxes,H.toks,H.loops⟩∧makeA es b z H2 x=some (v,⟨H'.boxes,H2.toks,H2.loops⟩)∧∃B,H'.boxes=H.boxes++B:=by
 unfold makeA at h⊢
 split at h
 ·split at h
  ·rename_i hc
   simp only[if_pos hc]
   split at h
   ·rename_i h0
    simp only[Option.some.injEq,Prod.mk.injEq]at h
    obtain⟨rfl,rfl⟩:=h
    exact⟨rfl,by simp[h0,←hb],[],by simp⟩
   ·rename_i h0
    simp only[Option.some.injEq,Prod.mk.injEq]at h
    obtain⟨rfl,rfl⟩:=h
    exact⟨rfl,by simp[h0,hb],_,rfl⟩
  ·cases h
 ·cases h
theorem appendM_frame{es b:Nat}{H H2 H':Heap}{x y v:AV}(hb:H2.boxes=H.boxes)(h:appendMA es b H x y=some (v,H')):H'=⟨H'.boxes,H.toks,H.loops⟩∧appendMA es b H2 x y=some (v,⟨H'.boxes,H2.toks,H2.loops⟩):=by
 unfold appendMA at h⊢
 split at h
 ·rename_i k l k' m
  cases m with
  |nil=>
   simp only[Option.some.injEq,Prod.mk.injEq]at h⊢
   obtain⟨rfl,rfl⟩:=h
   exact⟨rfl,rfl,by rw[←hb]⟩
  |cons m0 m'=>
   simp only at h⊢
   split at h
   ·rename_i hc
    simp only[Option.some.injEq,Prod.mk.injEq]at h
    obtain⟨rfl,rfl⟩:=h
    rw[if_pos hc,hb]
    exact⟨rfl,rfl⟩
   ·cases h
 ·rename_i k off n es' k' m
  cases m with
  |nil=>
   simp only[Option.some.injEq,Prod.mk.injEq]at h⊢
   obtain⟨rfl,rfl⟩:=h
   exact⟨rfl,rfl,by rw[←hb]⟩
  |cons m0 m'=>
   simp only[hb]at h⊢
   split at h
   ·split at h
    ·rename_i hc
     simp only[Option.some.injEq,Prod.mk.injEq]at h
     obtain⟨rfl,rfl⟩:=h
     rw[if_pos hc]
     exact⟨rfl,rfl⟩
    ·cases h
   ·cases h
 ·cases h
theorem clear_frame{z:List AV}{H H2 H':Heap}{x:AV}(hb:H2.boxes=H.boxes)(h:clearA z H x=some H'):H'=⟨H'.boxes,H.toks,H.loops⟩∧clearA z H2 x=some ⟨H'.boxes,H2.toks,H2.loops⟩:=by
 unfold clearA at h⊢
 split at h
 ·simp only[Option.some.injEq]at h⊢
  subst h
  exact⟨rfl,by rw[←hb]⟩
 ·simp only[hb]at h⊢
  split at h
  ·split at h
   ·rename_i hc
    simp only[Option.some.injEq]at h
    subst h
    rw[if_pos hc]
    exact⟨rfl,rfl⟩
   ·cases h
  ·cases h
 ·cases h
theorem stepD_frame{call:CallF}{op:AOp}{T:Env}{H H2:Heap}{out:Out}(h:opStepD call op T H=some out)(hb:rdB (clsOf op)=true→H2.boxes=H.boxes)(ht:rdT (clsOf op)=true→H2.toks=H.toks)(hlp:H2.loops=H.loops):
 ∃B K,out.heap=mix (clsOf op) B K H∧opStepD call op T H2=some (out.put (mix (clsOf op) B K H2)):=by
 have pure:∀o:Option AV,(match o with|some v=>some (Out.val v H)|none=>none)=some out→
  out.heap=H∧(match o with|some v=>some (Out.val v H2)|none=>none)=some (out.put H2):=by
  intro o ho
  cases o with
  |none=>cases ho
  |some v=>simp only[Option.some.injEq]at ho;subst ho;exact⟨rfl,rfl⟩
 cases op with
 |box x=>
  simp only[opStepD,opStep]at h⊢
  have hb:=hb rfl
  split at h<;>simp only[Option.some.injEq,reduceCtorEq]at h
  rename_i h1 h2
  subst h
  refine⟨H.boxes++[(ev T x).cells],[],rfl,?_⟩
  simp[clsOf,mix,wrB,wrT,Out.put,boxA,hb]
 |load g n x=>
  simp only[opStepD,opStep]at h⊢
  rw[loadA_boxes (hb rfl)]
  cases hl:loadA g n H (ev T x)with
  |none=>rw[hl]at h;cases h
  |some v=>
   rw[hl]at h
   simp only[Option.some.injEq]at h
   subst h
   exact⟨[],[],rfl,rfl⟩
 |store n x v=>
  simp only[opStepD,opStep]at h⊢
  have hb:=hb rfl
  unfold storeA at h⊢
  cases hx:ev T x with
  |ptr k off=>
   rw[hx]at h
   simp only at h⊢
   rw[hb]
   cases hk:H.boxes[k]? with
   |none=>rw[hk]at h;cases h
   |some cs=>
    rw[hk]at h
    simp only at h⊢
    by_cases hc:off+n≤cs.length∧cellsN n (ev T v)=true∧(ev T v).cells.all cellOk=true∧0<n
    ·rw[if_pos hc]at h⊢
     simp only[Option.some.injEq]at h
     subst h
     exact⟨H.boxes.set k (paste cs off (ev T v).cells),[],rfl,by simp[clsOf,mix,wrB,wrT,Out.put]⟩
    ·rw[if_neg hc]at h;cases h
  |_=>rw[hx]at h;cases h
 |append es b x y=>
  simp only[opStepD,opStep]at h⊢
  have ht:=ht rfl
  unfold appendA at h⊢
  cases hx:ev T x with
  |sl k l=>
   cases hy:ev T y with
   |sl k2 m=>
    rw[hx,hy]at h
    simp only at h⊢
    cases m with
    |nil=>
     simp only[Option.some.injEq]at h⊢
     subst h
     refine⟨[],H.toks,rfl,?_⟩
     simp[clsOf,mix,wrB,wrT,Out.put,←ht]
    |cons m0 m'=>
     simp only at h⊢
     by_cases hc:(l.length+(m0::m').length)*b≤140737488355328∧lenOk es l=true∧lenOk es (m0::m')=true∧dataOk (m0::m')=true
     ·rw[if_pos hc]at h⊢
      cases k with
      |sh=>cases h
      |nil=>cases h
      |full=>
       simp only[Option.some.injEq]at h
       subst h
       refine⟨[],H.toks++[l.length+(m0::m').length],rfl,?_⟩
       simp[clsOf,mix,wrB,wrT,Out.put,ht]
      |own t=>
       simp only[ht]at h⊢
       by_cases hc2:H.toks[t]?=some l.length
       ·rw[if_pos hc2]at h⊢
        simp only[Option.some.injEq]at h
        subst h
        refine⟨[],H.toks.set t (l.length+(m0::m').length),rfl,?_⟩
        simp[clsOf,mix,wrB,wrT,Out.put]
       ·rw[if_neg hc2]at h;cases h
     ·rw[if_neg hc]at h;cases h
   |_=>rw[hx,hy]at h;cases h
  |_=>rw[hx]at h;cases h
 |panic x=>
  simp only[opStepD,opStep]at h⊢
  split at h<;>simp only[Option.some.injEq,reduceCtorEq]at h
  subst h
  exact⟨[],[],rfl,rfl⟩
 |bsliceM es xs=>
  simp only[opStepD,opStep]at h⊢
  cases hr:bsliceA es H (xs.map fun x=>shut2 (ev T x))with
  |none=>rw[hr]at h;cases h
  |some r=>
   rw[hr]at h
   simp only[Option.some.injEq]at h
   subst h
   obtain⟨e1,e2,-⟩:=bslice_frame (H2:=H2) (hb rfl) (v:=r.1) (H':=r.2) hr
   exact⟨r.2.boxes,[],e1,by rw[e2];rfl⟩
 |makeM es b z x=>
  simp only[opStepD,opStep]at h⊢
  cases hr:makeA es b z H (ev T x)with
  |none=>rw[hr]at h;cases h
  |some r=>
   rw[hr]at h
   simp only[Option.some.injEq]at h
   subst h
   obtain⟨e1,e2,-⟩:=make_frame (H2:=H2) (hb rfl) (v:=r.1) (H':=r.2) hr
   exact⟨r.2.boxes,[],e1,by rw[e2];rfl⟩
 |appendM es b x y=>
  simp only[opStepD,opStep]at h⊢
  cases hr:appendMA es b H (ev T x) (ev T y)with
  |none=>rw[hr]at h;cases h
  |some r=>
   rw[hr]at h
   simp only[Option.some.injEq]at h
   subst h
   obtain⟨e1,e2⟩:=appendM_frame (H2:=H2) (hb rfl) (v:=r.1) (H':=r.2) hr
   exact⟨r.2.boxes,[],e1,by rw[e2];rfl⟩
 |clearM z x=>
  simp only[opStepD,opStep]at h⊢
  cases hr:clearA z H (ev T x)with
  |none=>rw[hr]at h;cases h
  |some r=>
   rw[hr]at h
   simp only[Option.some.injEq]at h
   subst h
   obtain⟨e1,e2⟩:=clear_frame (H2:=H2) (hb rfl) hr
   exact⟨r.boxes,[],e1,by rw[e2];rfl⟩
 |callM f az=>
  refine⟨[],[],?_⟩
  simp only[opStepD,callDW]at h⊢
  split at h
  ·split at h
   ·rename_i hd
    rw[if_pos hd]
    split at h
    ·rename_i hcc
     split at h<;>simp only[Option.some.injEq,reduceCtorEq]at h
     rename_i hdd
     subst h
     rw[if_pos hdd]
     exact⟨rfl,rfl⟩
    ·rename_i hcc
     split at h<;>simp only[Option.some.injEq,reduceCtorEq]at h
     rename_i hdd
     subst h
     rw[if_pos hdd]
     exact⟨rfl,rfl⟩
    ·cases h
   ·rename_i hd
    obtain⟨v,h1,rfl⟩:=calm_some h
    have e2:H2=H:=by
     have a1:=hb rfl
     have a2:=ht rfl
     cases H2;cases H;simp only at a1 a2 hlp;subst a1;subst a2;subst hlp;rfl
    subst e2
    refine⟨rfl,?_⟩
    rw[if_neg hd,h1,calm_val]
    rfl
  ·cases h
 |call f az=>
  refine⟨[],[],?_⟩
  simp only[opStepD,callD]at h⊢
  split at h
  ·split at h
   ·rename_i hd
    rw[if_pos hd]
    split at h
    ·rename_i hcc
     split at h<;>simp only[Option.some.injEq,reduceCtorEq]at h
     rename_i hdd
     subst h
     exact⟨rfl,rfl⟩
    ·rename_i hcc
     split at h<;>simp only[Option.some.injEq,reduceCtorEq]at h
     rename_i hdd
     subst h
     rw[if_pos hdd]
     exact⟨rfl,rfl⟩
    ·cases h
   ·rename_i hd
    obtain⟨v,h1,rfl⟩:=calm_some h
    have e2:H2=H:=by
     have a1:=hb rfl
     have a2:=ht rfl
     cases H2;cases H;simp only at a1 a2 hlp;subst a1;subst a2;subst hlp;rfl
    subst e2
    refine⟨rfl,?_⟩
    rw[if_neg hd,h1,calm_val]
    rfl
  ·cases h
 |mov x=>obtain⟨h1,h2⟩:=pure (some (ev T x)) h;exact⟨[],[],h1,h2⟩
 |mkiface t x=>obtain⟨h1,h2⟩:=pure (some (.iface t (ev T x))) h;exact⟨[],[],h1,h2⟩
 |mkfunc f caps=>obtain⟨h1,h2⟩:=pure (some (.func f (caps.map (ev T)))) h;exact⟨[],[],h1,h2⟩
 |_=>obtain⟨h1,h2⟩:=pure _ h;exact⟨[],[],h1,h2⟩
theorem stepD_step{call:CallF}{op:AOp}{T:Env}{H:Heap}{out:Out}(h:opStepD call op T H=some out):opStep call op T H=some out:=by
 cases op with
 |call f az=>
  simp only[opStepD,callD]at h
  simp only[opStep,callV]
  cases hf:ev T f with
  |func g caps=>
   rw[hf]at h
   simp only at h⊢
   split at h
   ·rename_i hd
    rw[if_pos hd]
    split at h
    ·split at h
     ·exact h
     ·cases h
    ·exact h
    ·cases h
   ·rename_i hd
    rw[if_neg hd]
    obtain⟨v,h1,rfl⟩:=calm_some h
    exact h1
  |_=>rw[hf]at h;cases h
 |callM f az=>
  simp only[opStepD,callDW]at h
  simp only[opStep,callW]
  cases hf:ev T f with
  |func g caps=>
   rw[hf]at h
   simp only at h⊢
   split at h
   ·rename_i hd
    rw[if_pos hd]
    split at h
    ·split at h
     ·rename_i hdd;rw[if_pos hdd];exact h
     ·cases h
    ·exact h
    ·cases h
   ·rename_i hd
    rw[if_neg hd]
    obtain⟨v,h1,rfl⟩:=calm_some h
    exact h1
  |_=>rw[hf]at h;cases h
 |_=>simpa only[opStepD]using h
theorem exec_step{call:CallF}{o:AOper}{T:Env}{H:Heap}{out:Out}(h:exec (opStepD call) o T H=some out):exec (opStep call) o T H=some out:=by
 unfold exec at h⊢
 cases hw:wantedA o T with
 |none=>rw[hw]at h;cases h
 |some b=>
  rw[hw]at h
  cases b with
  |true=>exact stepD_step h
  |false=>exact h
theorem exec_frame{call:CallF}{o:AOper}{T:Env}{H H2:Heap}{out:Out}(h:exec (opStepD call) o T H=some out)(hb:rdB (clsOf o.op)=true→H2.boxes=H.boxes)(ht:rdT (clsOf o.op)=true→H2.toks=H.toks)(hlp:H2.loops=H.loops):
 ∃B K,out.heap=mix (clsOf o.op) B K H∧exec (opStepD call) o T H2=some (out.put (mix (clsOf o.op) B K H2)):=by
 unfold exec at h⊢
 cases hw:wantedA o T with
 |none=>rw[hw]at h;cases h
 |some b=>
  rw[hw]at h
  cases b with
  |true=>exact stepD_frame h hb ht hlp
  |false=>
   simp only[Option.some.injEq]at h
   subst h
   refine⟨H.boxes,H.toks,(mix_same (fun _=>rfl) (fun _=>rfl)).symm,?_⟩
   rw[mix_same (fun hw=>(hb (wrB_rdB hw)).symm) (fun hw=>(ht (wrT_rdT hw)).symm)]
   rfl
theorem exec_pan{call:CallF}{o:AOper}{T:Env}{H H':Heap}{v:AV}(h:exec (opStepD call) o T H=some (.pan v H')):(clsOf o.op=.call∨clsOf o.op=.pan)∧H'=H:=by
 have hcls:clsOf o.op=.call∨clsOf o.op=.pan:=by
  unfold exec at h
  split at h
  ·cases hop:o.op with
   |call f az=>exact .inl rfl
   |callM f az=>exact .inl rfl
   |panic x=>exact .inr rfl
   |_=>
    rw[hop]at h
    simp only[opStepD]at h
    rcases opStep_pan h with h|⟨x,_,_,hx,_⟩
    ·exact .inl h
    ·cases hx
  ·cases h
  ·cases h
 obtain⟨B,K,h1,_⟩:=exec_frame (H2:=H) h (fun _=>rfl) (fun _=>rfl) rfl
 refine⟨hcls,?_⟩
 rcases hcls with hc|hc<;>rw[hc]at h1<;>exact h1
theorem exec_quiet{call:CallF}{o:AOper}{T:Env}{H H':Heap}{v:AV}(h:exec (opStepD call) o T H=some (.val v H'))(h1:wrB (clsOf o.op)=false)(h2:wrT (clsOf o.op)=false):H'=H:=by
 obtain⟨B,K,e,_⟩:=exec_frame (H2:=H) h (fun _=>rfl) (fun _=>rfl) rfl
 have e:H'=mix (clsOf o.op) B K H:=e
 rw[e,mix_same (by simp[h1]) (by simp[h2])]
theorem ev_congr{T T':Env}{x:Opd}(h:∀n∈opdUse x,T n=T' n):ev T x=ev T' x:=by
 cases x with
 |t n=>exact h n (by simp[opdUse])
 |c v=>rfl
theorem map_ev_congr{T T':Env}{xs:List Opd}(h:∀n∈xs.flatMap opdUse,T n=T' n):xs.map (ev T)=xs.map (ev T'):=
 List.map_congr_left fun x hx=>ev_congr fun n hn=>h n (List.mem_flatMap.2 ⟨x,hx,hn⟩)
theorem opt_ev_congr{T T':Env}{x:Option Opd}(h:∀n∈optUse x,T n=T' n):x.map (ev T)=x.map (ev T'):=by
 cases x with
 |none=>rfl
 |some x=>simp only[Option.map_some];rw[ev_congr h]
theorem stepD_congr{call:CallF}{op:AOp}{T T':Env}{H:Heap}(h:∀n∈opUse op,T n=T' n):opStepD call op T H=opStepD call op T' H:=by
 cases op with
 |mov x=>simp only[opStepD,opStep,pureOp];rw[ev_congr (T':=T') h]
 |pick c a b=>
  simp only[opStepD,opStep,pureOp]
  rw[ev_congr (T':=T') (x:=c) fun n hn=>h n (by simp[opUse,hn]),ev_congr (T':=T') (x:=a) fun n hn=>h n (by simp[opUse,hn]),ev_congr (T':=T') (x:=b) fun n hn=>h n (by simp[opUse,hn])]
 |box x=>simp only[opStepD,opStep];rw[ev_congr (T':=T') h]
 |build z ps=>
  simp only[opStepD,opStep,pureOp]
  have:(ps.map fun p=>(p.1,p.2.1,ev T p.2.2))=ps.map fun p=>(p.1,p.2.1,ev T' p.2.2):=
   List.map_congr_left fun p hp=>by rw[ev_congr (T':=T') fun n hn=>h n (List.mem_flatMap.2 ⟨p,hp,hn⟩)]
  rw[this]
 |bslice es xs=>
  simp only[opStepD,opStep,pureOp]
  have:(xs.map fun x=>shut2 (ev T x))=xs.map fun x=>shut2 (ev T' x):=
   List.map_congr_left fun p hp=>by rw[ev_congr (T':=T') fun n hn=>h n (List.mem_flatMap.2 ⟨p,hp,hn⟩)]
  rw[this]
 |bsliceM es xs=>
  simp only[opStepD,opStep]
  have:(xs.map fun x=>shut2 (ev T x))=xs.map fun x=>shut2 (ev T' x):=
   List.map_congr_left fun p hp=>by rw[ev_congr (T':=T') fun n hn=>h n (List.mem_flatMap.2 ⟨p,hp,hn⟩)]
  rw[this]
 |makeM es b z x=>simp only[opStepD,opStep];rw[ev_congr (T':=T') h]
 |clearM z x=>simp only[opStepD,opStep];rw[ev_congr (T':=T') h]
 |appendM es b x y=>
  simp only[opStepD,opStep]
  rw[ev_congr (T':=T') (x:=x) fun n hn=>h n (by simp[opUse,hn]),ev_congr (T':=T') (x:=y) fun n hn=>h n (by simp[opUse,hn])]
 |callM f xs=>
  simp only[opStepD]
  have:(xs.map fun x=>shutA (ev T x))=xs.map fun x=>shutA (ev T' x):=
   List.map_congr_left fun p hp=>by rw[ev_congr (T':=T') fun n hn=>h n (by simp only[opUse,List.mem_append];exact .inr (List.mem_flatMap.2 ⟨p,hp,hn⟩))]
  rw[this,ev_congr (T':=T') (x:=f) fun n hn=>h n (by simp[opUse,hn])]
 |load g n x=>simp only[opStepD,opStep];rw[ev_congr (T':=T') h]
 |store n x v=>
  simp only[opStepD,opStep]
  rw[ev_congr (T':=T') (x:=x) fun n hn=>h n (by simp[opUse,hn]),ev_congr (T':=T') (x:=v) fun n hn=>h n (by simp[opUse,hn])]
 |nilchk x=>simp only[opStepD,opStep,pureOp];rw[ev_congr (T':=T') h]
 |bin b x y=>
  simp only[opStepD,opStep,pureOp]
  rw[ev_congr (T':=T') (x:=x) fun n hn=>h n (by simp[opUse,hn]),ev_congr (T':=T') (x:=y) fun n hn=>h n (by simp[opUse,hn])]
 |eqst b ks x y=>
  simp only[opStepD,opStep,pureOp]
  rw[ev_congr (T':=T') (x:=x) fun n hn=>h n (by simp[opUse,hn]),ev_congr (T':=T') (x:=y) fun n hn=>h n (by simp[opUse,hn])]
 |eqb b x y=>
  simp only[opStepD,opStep,pureOp]
  rw[ev_congr (T':=T') (x:=x) fun n hn=>h n (by simp[opUse,hn]),ev_congr (T':=T') (x:=y) fun n hn=>h n (by simp[opUse,hn])]
 |un b x=>simp only[opStepD,opStep,pureOp];rw[ev_congr (T':=T') h]
 |eqnil b k x=>simp only[opStepD,opStep,pureOp];rw[ev_congr (T':=T') h]
 |conv b x=>simp only[opStepD,opStep,pureOp];rw[ev_congr (T':=T') h]
 |mkiface b x=>simp only[opStepD,opStep,pureOp];rw[ev_congr (T':=T') h]
 |mkfunc f xs=>simp only[opStepD,opStep,pureOp];rw[map_ev_congr (T':=T') h]
 |slice es x lo hi mx=>
  simp only[opStepD,opStep,pureOp]
  rw[ev_congr (T':=T') (x:=x) fun n hn=>h n (by simp[opUse,hn]),opt_ev_congr (T':=T') (x:=lo) fun n hn=>h n (by simp[opUse,hn]),
   opt_ev_congr (T':=T') (x:=hi) fun n hn=>h n (by simp[opUse,hn]),opt_ev_congr (T':=T') (x:=mx) fun n hn=>h n (by simp[opUse,hn])]
 |fld o n x=>simp only[opStepD,opStep,pureOp];rw[ev_congr (T':=T') h]
 |fldv g o n x=>simp only[opStepD,opStep,pureOp];rw[ev_congr (T':=T') h]
 |idx b x y=>
  simp only[opStepD,opStep,pureOp]
  rw[ev_congr (T':=T') (x:=x) fun n hn=>h n (by simp[opUse,hn]),ev_congr (T':=T') (x:=y) fun n hn=>h n (by simp[opUse,hn])]
 |idxs x y=>
  simp only[opStepD,opStep,pureOp]
  rw[ev_congr (T':=T') (x:=x) fun n hn=>h n (by simp[opUse,hn]),ev_congr (T':=T') (x:=y) fun n hn=>h n (by simp[opUse,hn])]
 |extract x i=>simp only[opStepD,opStep,pureOp];rw[ev_congr (T':=T') h]
 |call f xs=>
  simp only[opStepD]
  have:(xs.map fun x=>shutA (ev T x))=xs.map fun x=>shutA (ev T' x):=
   List.map_congr_left fun p hp=>by rw[ev_congr (T':=T') fun n hn=>h n (by simp only[opUse,List.mem_append];exact .inr (List.mem_flatMap.2 ⟨p,hp,hn⟩))]
  rw[this,ev_congr (T':=T') (x:=f) fun n hn=>h n (by simp[opUse,hn])]
 |len s x=>simp only[opStepD,opStep,pureOp];rw[ev_congr (T':=T') h]
 |append es b x y=>
  simp only[opStepD,opStep]
  rw[ev_congr (T':=T') (x:=x) fun n hn=>h n (by simp[opUse,hn]),ev_congr (T':=T') (x:=y) fun n hn=>h n (by simp[opUse,hn])]
 |mm b x y=>
  simp only[opStepD,opStep,pureOp]
  rw[ev_congr (T':=T') (x:=x) fun n hn=>h n (by simp[opUse,hn]),ev_congr (T':=T') (x:=y) fun n hn=>h n (by simp[opUse,hn])]
 |panic x=>simp only[opStepD,opStep];rw[ev_congr (T':=T') h]
theorem exec_congr{call:CallF}{o:AOper}{T T':Env}{H:Heap}(h:∀n∈o.use,T n=T' n):exec (opStepD call) o T H=exec (opStepD call) o T' H:=by
 unfold exec
 have hw:wantedA o T=wantedA o T':=by
  unfold wantedA
  cases hg:o.guard with
  |none=>rfl
  |some g=>simp only;rw[h g.1 (by simp[AOper.use,hg])]
 rw[hw,stepD_congr (T':=T') fun n hn=>h n (by simp[AOper.use,hn])]
theorem setD_use{T:Env}{d:Option Nat}{v:AV}{us:List Nat}(h:∀x,d=some x→x∉us):∀n∈us,setD T d v n=T n:=by
 intro n hn
 cases d with
 |none=>rfl
 |some d=>
  have hne:n≠d:=fun e=>h d rfl (e▸hn)
  simp[setD,upd_eq,hne]
theorem setD_comm{T:Env}{d e:Option Nat}{v u:AV}(h:∀x,d=some x→e≠some x):setD (setD T d v) e u=setD (setD T e u) d v:=by
 cases d with
 |none=>rfl
 |some d=>
  cases e with
  |none=>rfl
  |some e=>
   have hne:e≠d:=fun he=>h d rfl (by rw[he])
   funext n
   simp only[setD,upd_eq]
   by_cases h1:n=e
   ·subst h1;simp[hne]
   ·simp[h1]
theorem apart_spec{a b:AOper}(h:apartA a b=true):compat (clsOf a.op) (clsOf b.op)=true∧(∀d,a.dst=some d→d∉b.use)∧(∀d,a.dst=some d→b.dst≠some d)∧(∀d,b.dst=some d→d∉a.use):=by
 simp only[apartA,Bool.and_eq_true]at h
 obtain⟨⟨h1,h2⟩,h3⟩:=h
 refine⟨h1,fun d hd=> ?_,fun d hd=> ?_,fun d hd=> ?_⟩
 ·rw[hd]at h2;simp at h2;exact h2.1
 ·rw[hd]at h2;simp at h2;exact h2.2
 ·rw[hd]at h3;simpa using h3
noncomputable def runP(call:CallF):List (AOper×Nat)→Option (Nat×AV)→Env→Heap→Option OutE
 |[],none,T,H=>some (.env T H)
 |[],some (_,v),_,H=>some (.pan v H)
 |o::r,none,T,H=>
  match exec (opStepD call) o.1 T H with
  |some (.val v H')=>runP call r none (setD T o.1.dst v) H'
  |some (.pan v H')=>runP call r (some (o.2,v)) T H'
  |none=>none
 |o::r,some (p,x),T,H=>
  if o.1.deps.contains p then runP call r (some (p,x)) T H else
  match exec (opStepD call) o.1 T H with
  |some (.val v H')=>runP call r (some (p,x)) (setD T o.1.dst v) H'
  |_=>none
theorem runD_runP{call:CallF}:∀(ops:List AOper)(i:Nat)(p:Option (Nat×AV))(T:Env)(H:Heap),runD call i ops p T H=runP call (ops.zipIdx i) p T H
 |[],i,none,T,H=>rfl
 |[],i,some _,T,H=>rfl
 |o::r,i,none,T,H=>by
  rw[List.zipIdx_cons,runD,runP]
  unfold exec
  cases wantedA o T with
  |none=>rfl
  |some b=>
   cases b with
   |true=>
    simp only
    cases opStepD call o.op T H with
    |none=>rfl
    |some x=>cases x<;>exact runD_runP r _ _ _ _
   |false=>exact runD_runP r _ _ _ _
 |o::r,i,some (p,x),T,H=>by
  rw[List.zipIdx_cons,runD,runP]
  simp only
  split
  ·exact runD_runP r _ _ _ _
  ·unfold exec
   cases wantedA o T with
   |none=>rfl
   |some b=>
    cases b with
    |true=>
     simp only
     cases opStepD call o.op T H with
     |none=>rfl
     |some x=>
      cases x with
      |val v H'=>exact runD_runP r _ _ _ _
      |pan v H'=>rfl
    |false=>exact runD_runP r _ _ _ _
def Calm(p:Nat)(y:AOper×Nat):Prop:=y.1.deps.contains p=true∨(wrB (clsOf y.1.op)=false∧wrT (clsOf y.1.op)=false)
theorem pending_out{call:CallF}{p:Nat}{x:AV}:∀{R:List (AOper×Nat)}{T:Env}{H:Heap}{out:OutE},(∀y∈R,Calm p y)→runP call R (some (p,x)) T H=some out→out=.pan x H
 |[],T,H,out,_,h=>by simp only[runP,Option.some.injEq]at h;exact h.symm
 |o::r,T,H,out,hc,h=>by
  simp only[runP]at h
  split at h
  ·exact pending_out (fun y hy=>hc y (List.mem_cons_of_mem _ hy)) h
  ·rename_i hd
   split at h
   ·rename_i v H' he
    have hq:=(hc o (by simp)).resolve_left hd
    have:=exec_quiet he hq.1 hq.2
    subst this
    exact pending_out (fun y hy=>hc y (List.mem_cons_of_mem _ hy)) h
   ·cases h
theorem pending_front{call:CallF}{i:AOper×Nat}{p:Nat}{x:AV}(hip:i.1.deps.contains p=false)(hqi:wrB (clsOf i.1.op)=false∧wrT (clsOf i.1.op)=false):
 ∀{A B:List (AOper×Nat)}{T:Env}{H:Heap}{out:OutE},(∀a∈A,apartA a.1 i.1=true∧Calm p a)→runP call (A++i::B) (some (p,x)) T H=some out→
  ∃v,exec (opStepD call) i.1 T H=some (.val v H)∧runP call (A++B) (some (p,x)) (setD T i.1.dst v) H=some out
 |[],B,T,H,out,_,h=>by
  simp only[List.nil_append,runP,hip,Bool.false_eq_true,if_false]at h
  split at h
  ·rename_i v H' he
   have:=exec_quiet he hqi.1 hqi.2
   subst this
   exact⟨v,he,h⟩
  ·cases h
 |a::A,B,T,H,out,hA,h=>by
  obtain⟨hap,hca⟩:=hA a (by simp)
  have hA':∀a∈A,apartA a.1 i.1=true∧Calm p a:=fun b hb=>hA b (List.mem_cons_of_mem _ hb)
  obtain⟨_,s1,s2,s3⟩:=apart_spec hap
  simp only[List.cons_append,runP]at h⊢
  by_cases hd:a.1.deps.contains p=true
  ·rw[if_pos hd]at h
   obtain⟨v,h1,h2⟩:=pending_front hip hqi hA' h
   exact⟨v,h1,by rw[if_pos hd];exact h2⟩
  ·rw[if_neg hd]at h
   split at h
   ·rename_i va H' he
    have hq:=hca.resolve_left hd
    have:=exec_quiet he hq.1 hq.2
    subst this
    obtain⟨v,h1,h2⟩:=pending_front hip hqi hA' h
    rw[exec_congr (T':=T) (setD_use s1)]at h1
    refine⟨v,h1,?_⟩
    rw[if_neg hd,exec_congr (T':=T) (setD_use s3),he]
    simp only
    rw[←setD_comm (T:=T) (d:=a.1.dst) (e:=i.1.dst) s2]
    exact h2
   ·cases h
theorem alloc_grows{call:CallF}{o:AOper}{T:Env}{H H':Heap}{v:AV}(h:exec (opStepD call) o T H=some (.val v H'))(hc:clsOf o.op=.alloc):∃B,H'.boxes=H.boxes++B:=by
 unfold exec at h
 split at h
 ·cases hop:o.op with
  |box x=>
   rw[hop]at h
   simp only[opStepD,opStep]at h
   split at h<;>simp only[Option.some.injEq,reduceCtorEq,Out.val.injEq]at h
   exact⟨_,by rw[←h.2];rfl⟩
  |bsliceM es xs=>
   rw[hop]at h
   simp only[opStepD,opStep]at h
   split at h<;>simp only[Option.some.injEq,reduceCtorEq,Out.val.injEq]at h
   rename_i r hr
   obtain⟨-,-,B,e⟩:=bslice_frame (H2:=H) rfl (v:=r.1) (H':=r.2) hr
   exact⟨B,by rw[←h.2];exact e⟩
  |makeM es b z x=>
   rw[hop]at h
   simp only[opStepD,opStep]at h
   split at h<;>simp only[Option.some.injEq,reduceCtorEq,Out.val.injEq]at h
   rename_i r hr
   obtain⟨-,-,B,e⟩:=make_frame (H2:=H) rfl (v:=r.1) (H':=r.2) hr
   exact⟨B,by rw[←h.2];exact e⟩
  |_=>rw[hop]at hc;cases hc
 ·simp only[Option.some.injEq,Out.val.injEq]at h
  exact⟨[],by rw[←h.2];simp⟩
 ·cases h
theorem loadA_grows{g:Bool}{n:Nat}{H H2:Heap}{B:List (List AV)}{x v:AV}(h:loadA g n H x=some v)(hB:H2.boxes=H.boxes++B):loadA g n H2 x=some v:=by
 cases x with
 |ptr k off=>
  simp only[loadA]at h⊢
  cases hk:H.boxes[k]? with
  |none=>rw[hk]at h;cases h
  |some cs=>
   have:H2.boxes[k]?=some cs:=by
    rw[hB,List.getElem?_append_left (List.getElem?_eq_some_iff.1 hk).1];exact hk
   rw[hk]at h
   rw[this];exact h
 |ref cs=>exact h
 |_=>cases h
theorem read_grows{call:CallF}{o:AOper}{T:Env}{H H1 H2:Heap}{B:List (List AV)}{v:AV}(h:exec (opStepD call) o T H=some (.val v H1))(hc:clsOf o.op=.read)(hB:H2.boxes=H.boxes++B):exec (opStepD call) o T H2=some (.val v H2):=by
 unfold exec at h⊢
 split at h
 ·cases hop:o.op with
  |load g n x=>
   rw[hop]at h
   simp only[opStepD,opStep]at h⊢
   split at h
   ·rename_i u hl
    simp only[Option.some.injEq,Out.val.injEq]at h
    rw[loadA_grows hl hB,h.1]
   ·cases h
  |_=>rw[hop]at hc;cases hc
 ·simp only[Option.some.injEq,Out.val.injEq]at h
  rw[h.1]
 ·cases h
theorem front {call : CallF} {i : AOper × Nat} : ∀ {A B : List (AOper × Nat)} {T : Env} {H : Heap} {out : OutE},
    (A ++ i :: B).Pairwise (fun x y => y.1.deps.contains x.2 = true ∨ apartA x.1 y.1 = true) → (∀ a ∈ A, i.1.deps.contains a.2 = false) → runP call (A ++ i :: B) none T H = some out →
      ∃ oi, exec (opStepD call) i.1 T H = some oi ∧ (match oi with
        | .val v Hi => runP call (A ++ B) none (setD T i.1.dst v) Hi = some out
        | .pan v Hi => out = .pan v Hi)
  | [], B, T, H, out, hp, _, h => by
    simp only [List.nil_append, runP] at h
    split at h
    · rename_i v H' he
      exact ⟨_, he, h⟩
    · rename_i v H' he
      obtain ⟨hc, rfl⟩ := exec_pan he
      refine ⟨_, he, ?_⟩
      refine pending_out (fun y hy => ?_) h
      simp only [List.nil_append, List.pairwise_cons] at hp
      rcases hp.1 y hy with hd | hap
      · exact .inl hd
      · have := compat_spec _ _ (apart_spec hap).1
        rcases hc with hc | hc
        · exact .inr ⟨(this.2.2.2.2.2.2.1 hc).1, (this.2.2.2.2.2.2.1 hc).2⟩
        · exact absurd hc this.2.2.2.2.1
    · cases h
  | a :: A, B, T, H, out, hp, hn, h => by
    simp only [List.cons_append, List.pairwise_cons] at hp
    have hap : apartA a.1 i.1 = true := (hp.1 i (by simp)).resolve_left (by rw [hn a (by simp)]; simp)
    obtain ⟨s0, s1, s2, s3⟩ := apart_spec hap
    have cs := compat_spec _ _ s0
    simp only [List.cons_append, runP] at h
    split at h
    · rename_i va Ha he
      obtain ⟨oi, h1, h2⟩ := front hp.2 (fun b hb => hn b (List.mem_cons_of_mem _ hb)) h
      rw [exec_congr (T' := T) (setD_use s1)] at h1
      obtain ⟨Ba, Ka, ea, fa⟩ := exec_frame (H2 := H) he (fun _ => rfl) (fun _ => rfl) rfl
      have ea : Ha = mix (clsOf a.1.op) Ba Ka H := ea
      -- the second one sees what the first has not turned
      obtain ⟨Bi, Ki, ei, fi⟩ := exec_frame (H2 := H) h1 (fun hr => by
          rw [ea]; unfold mix; simp only
          rw [if_neg (fun hw => by rw [cs.1 hw] at hr; cases hr)]) (fun hr => by
          rw [ea]; unfold mix; simp only
          rw [if_neg (fun hw => by rw [cs.2.1 hw] at hr; cases hr)]) (by rw [ea]; rfl)
      refine ⟨_, fi, ?_⟩
      cases oi with
      | pan v H1 =>
        obtain ⟨hc, e1⟩ := exec_pan h1
        have hcall : clsOf i.1.op = .call := hc.resolve_right cs.2.2.2.2.2.1
        have q := cs.2.2.2.2.2.2.2 hcall
        have : Ha = H := exec_quiet he q.1 q.2
        simp only at h2
        simp only [Out.put]
        rw [h2, e1, this]
        congr 1
        rw [hcall]
        rfl
      | val v Hai =>
        simp only [Out.put] at h2 ⊢
        have eHai : Hai = mix (clsOf i.1.op) Bi Ki Ha := ei
        have hsw : ∃ Ba' Ka', (Out.val va Ha).heap = mix (clsOf a.1.op) Ba' Ka' H ∧ exec (opStepD call) a.1 T (mix (clsOf i.1.op) Bi Ki H) = some ((Out.val va Ha).put (mix (clsOf a.1.op) Ba' Ka' (mix (clsOf i.1.op) Bi Ki H))) := by
          by_cases hsp : clsOf a.1.op = .read ∧ clsOf i.1.op = .alloc
          · have hq : Ha = H := exec_quiet he (by rw [hsp.1]; rfl) (by rw [hsp.1]; rfl)
            obtain ⟨B', hB'⟩ := alloc_grows h1 hsp.2
            have hbox : (mix (clsOf i.1.op) Bi Ki H).boxes = H.boxes ++ B' := by
              rw [← hq, ← hB', eHai]
            have := read_grows he hsp.1 hbox
            refine ⟨[], [], ?_, ?_⟩
            · rw [hq, hsp.1]; rfl
            · rw [this]
              simp only [Out.put]
              rw [hsp.1]; rfl
          · exact exec_frame (H2 := mix (clsOf i.1.op) Bi Ki H) he (fun hr => by
              unfold mix; simp only
              rw [if_neg (fun hw => by
                rcases cs.2.2.1 hw with h | h
                · rw [h] at hr; cases hr
                · exact hsp h)]) (fun hr => by
              unfold mix; simp only
              rw [if_neg (fun hw => by rw [cs.2.2.2.1 hw] at hr; cases hr)]) rfl
        obtain ⟨Ba', Ka', ea', fa'⟩ := hsw
        simp only [List.cons_append, runP]
        rw [exec_congr (T' := T) (setD_use s3), fa']
        simp only [Out.put]
        rw [← setD_comm (T := T) (d := a.1.dst) (e := i.1.dst) s2]
        have hheap : mix (clsOf a.1.op) Ba' Ka' (mix (clsOf i.1.op) Bi Ki H) = Hai := by
          have ea' : Ha = mix (clsOf a.1.op) Ba' Ka' H := ea'
          rw [eHai, ea']
          unfold mix
          simp only [Heap.mk.injEq, and_true]
          constructor
          · by_cases hw : wrB (clsOf a.1.op) = true
            · have : wrB (clsOf i.1.op) = false := by
                cases hh : wrB (clsOf i.1.op) with
                | false => rfl
                | true => have := cs.1 hw; rw [wrB_rdB hh] at this; cases this
              simp [hw, this]
            · simp [hw]
          · by_cases hw : wrT (clsOf a.1.op) = true
            · have : wrT (clsOf i.1.op) = false := by
                cases hh : wrT (clsOf i.1.op) with
                | false => rfl
                | true => have := cs.2.1 hw; rw [wrT_rdT hh] at this; cases this
              simp [hw, this]
            · simp [hw]
        rw [hheap]
        exact h2
    · rename_i va Ha he
      obtain ⟨hc, rfl⟩ := exec_pan he
      have hcall : clsOf a.1.op = .call := hc.resolve_right cs.2.2.2.2.1
      have qi := cs.2.2.2.2.2.2.1 hcall
      have hcalm : ∀ b ∈ A, apartA b.1 i.1 = true ∧ Calm a.2 b := fun b hb => by
        refine ⟨?_, ?_⟩
        · have := List.pairwise_append.1 hp.2
          exact (this.2.2 b hb i (by simp)).resolve_left (by rw [hn b (List.mem_cons_of_mem _ hb)]; simp)
        · rcases hp.1 b (by simp [hb]) with hd | hab
          · exact .inl hd
          · have cs' := compat_spec _ _ (apart_spec hab).1
            exact .inr ⟨(cs'.2.2.2.2.2.2.1 hcall).1, (cs'.2.2.2.2.2.2.1 hcall).2⟩
      obtain ⟨v, h1, h2⟩ := pending_front (hn a (by simp)) ⟨qi.1, qi.2⟩ hcalm h
      refine ⟨_, h1, ?_⟩
      simp only [List.cons_append, runP]
      rw [exec_congr (T' := T) (setD_use s3), he]
      exact h2
    · cases h
end Go.Aa
set_option linter.unusedVariables false
set_option linter.unusedSimpArgs false
namespace Go.Aa
open Go.RowKit
variable{P:Program}{G G':Ghost}{w w':World}
def Ghost.settle(G:Ghost)(k:Nat):Ghost:={G with nb:=G.nb-1,μ:=fun j=>if j=k then G.μ (G.nb-1)else G.μ j,mc:=fun j=>if j=k then G.mc (G.nb-1)else G.mc j,hole:=fun j=>if j=k then false else G.hole j}
def sIdx(G:Ghost)(k j:Nat):Nat:=if j=k then G.nb-1 else j
theorem settle_on{k j:Nat}(hon:G.on (G.nb-1))(h:(G.settle k).on j):G.on (sIdx G k j):=by
 obtain⟨h1,h2⟩:=h
 simp only[Ghost.settle]at h1 h2
 unfold sIdx
 by_cases e:j=k
 ·rw[if_pos e];exact hon
 ·rw[if_neg e]at h2⊢;exact⟨by omega,h2⟩
theorem settle_μ{k j:Nat}:(G.settle k).μ j=G.μ (sIdx G k j):=by
 simp only[Ghost.settle,sIdx];split<;>rfl
theorem settle_mc{k j:Nat}:(G.settle k).mc j=G.mc (sIdx G k j):=by
 simp only[Ghost.settle,sIdx];split<;>rfl
theorem settle_keep{k j:Nat}(hk:G.hole k=true)(h:G.on j)(hj:j<G.nb-1):(G.settle k).on j∧(G.settle k).μ j=G.μ j∧(G.settle k).mc j=G.mc j:=by
 have e:j≠k:=by rintro rfl;rw[h.2]at hk;cases hk
 refine⟨⟨hj,?_⟩,?_,?_⟩
 ·simp only[Ghost.settle,if_neg e];exact h.2
 ·simp only[Ghost.settle,if_neg e]
 ·simp only[Ghost.settle,if_neg e]
theorem Rep.settle{k:Nat}{v:Value}{x:AV}{nt nl:Nat}(h:Rep G w v x)(hk:G.hole k=true)(hf:Fits (G.nb-1) nt nl x):Rep (G.settle k) w v x:=by
 induction h with
 |undef v=>exact .undef v
 |bool b=>exact .bool b
 |int k n=>exact .int k n
 |flt b=>exact .flt b
 |nan b h=>exact .nan b h
 |str s=>exact .str s
 |sl0 a c k hc ht=>exact .sl0 a c k hc ht
 |sl a c k l es us hln hc hcm hs hes he0 hd0 hlim hcell hrep hfull hown ih=>
  exact .sl a c k l es us hln hc hcm hs hes he0 hd0 hlim hcell (fun i hi j hj=>ih i hi j hj (.data _ (hd0 _ (List.getElem_mem hi) _ (List.getElem_mem hj)))) hfull hown
 |agg us cs hn h ih=>
  refine .agg us cs hn fun i h1 h2=>ih i h1 h2 ?_
  cases hf with
  |data _ h=>cases h with|agg _ h=>exact .data _ (h _ (List.getElem_mem h2))
  |agg _ h=>exact h _ (List.getElem_mem h2)
 |tuple us cs hn h ih=>
  refine .tuple us cs hn fun i h1 h2=>ih i h1 h2 ?_
  cases hf with
  |data _ h=>cases h with|tuple _ h=>exact .data _ (h _ (List.getElem_mem h2))
  |tuple _ h=>exact h _ (List.getElem_mem h2)
 |ptr j off hj=>
  cases hf with
  |data _ h=>cases h
  |ptr _ _ h=>
   obtain⟨o,e1,-⟩:=settle_keep hk hj h
   rw[←e1]
   exact .ptr j off o
 |ref a cs us hs hd0 hlim hcell hrep ih=>exact .ref a cs us hs hd0 hlim hcell fun j hj=>ih j hj (.data _ (hd0 _ (List.getElem_mem hj)))
 |nilptr=>exact .nilptr
 |func f us cs hn h ih=>
  refine .func f us cs hn fun i h1 h2=>ih i h1 h2 ?_
  cases hf with
  |data _ h=>cases h with|func _ _ h=>exact .data _ (h _ (List.getElem_mem h2))
  |func _ _ h=>exact h _ (List.getElem_mem h2)
 |nilFunc=>exact .nilFunc
 |iface t v x h ih=>
  refine .iface t v x (ih ?_)
  cases hf with
  |data _ h=>cases h with|iface _ _ h=>exact .data _ h
  |iface _ _ h=>exact h
 |nilIface=>exact .nilIface
 |msl j off n c es hj hc hcm he0 hcap=>
  cases hf with
  |data _ h=>cases h
  |msl _ _ _ _ h=>
   obtain⟨o,e1,e2⟩:=settle_keep hk hj h
   rw[←e1]
   exact .msl j off n c es o hc hcm he0 (by rw[e2];exact hcap)
 |yield l hl=>exact .yield l hl
theorem LRep.settle{k:Nat}{r:LRec}{rec:Loop}(h:LRep P G w r rec)(hk:G.hole k=true)(hn:r.nb≤G.nb-1):LRep P (G.settle k) w r rec:=by
 obtain⟨h1,h2,h3,h5,⟨f1,f2,f3,f4⟩,mu,nt,h4,h6⟩:=h
 exact⟨h1,h2,h3,h5,⟨hn,f2,f3,f4⟩,mu,nt,⟨h4.size,fun i=>(h4.get i).settle hk ((f4 i).mono hn (Nat.le_refl _) (Nat.le_refl _))⟩,h6⟩
theorem HRep.settle{k:Nat}{H:Heap}{cs:List AV}(hH:HRep P G w {H with boxes:=H.boxes++[cs]})(hk:G.hole k=true)(hkl:H.boxes[k]?=some cs)(hon:G.hole H.boxes.length=false)
 (hfit:∀j(hj:j<H.boxes.length),(j=k∨G.hole j=false)→∀x∈H.boxes[j],∀v,Rep G w v x→∃nt nl,Fits H.boxes.length nt nl x)(hl:∀r∈H.loops,r.nb≤H.boxes.length):HRep P (G.settle k) w H:=by
 have enb:G.nb=H.boxes.length+1:=by rw[hH.nb];simp
 have en1:G.nb-1=H.boxes.length:=by omega
 have hon':G.on (G.nb-1):=by rw[en1];exact⟨by omega,hon⟩
 obtain⟨hklt,hkc⟩:=List.getElem?_eq_some_iff.1 hkl
 have hlive:∀j,j<H.boxes.length→LiveB H j→LiveB {H with boxes:=H.boxes++[cs]} (sIdx G k j):=fun j hj h=>by
  unfold LiveB sIdx at*
  by_cases e:j=k
  ·subst e
   rw[if_pos rfl,en1,List.getElem?_append_right (Nat.le_refl _),Nat.sub_self]
   rw[hkl]at h
   exact h
  ·rw[if_neg e,List.getElem?_append_left hj];exact h
 have hinj:∀i j,sIdx G k i=sIdx G k j→i<H.boxes.length→j<H.boxes.length→i=j:=fun i j h hi hj=>by
  unfold sIdx at h
  by_cases e1:i=k<;>by_cases e2:j=k
  ·omega
  ·rw[if_pos e1,if_neg e2]at h;omega
  ·rw[if_neg e1,if_pos e2]at h;omega
  ·rw[if_neg e1,if_neg e2]at h;exact h
 have hlt:∀j,(G.settle k).on j→j<H.boxes.length:=fun j h=>by have:=h.1;simp only[Ghost.settle]at this;omega
 have hrep:∀(j:Nat)(hj:j<H.boxes.length)(hq:j=k∨G.hole j=false)(i:Nat)(hi:i<(H.boxes[j]).length)(v:Value),Rep G w v (H.boxes[j])[i]→Rep (G.settle k) w v (H.boxes[j])[i]:=fun j hj hq i hi v h=>by
  obtain⟨nt,nl,hf⟩:=hfit j hj hq _ (List.getElem_mem hi) v h
  exact h.settle hk (by rw[en1];exact hf)
 refine⟨hH.base,en1,hH.nt,hH.nl,fun j hj hh=> ?_,fun i j hi hj li lj he=> ?_,fun j hj lj=> ?_,hH.tok,hH.τinj,fun j t hj ht=> ?_,fun l hll=> ?_,hH.linj,hH.glob.turn (fun g hg=>⟨fun j hj=> ?_,hg.2.1,hg.2.2⟩) (fun _ _ _ _ _ h=>h)⟩
 ·rw[settle_μ,settle_mc]
  by_cases e:j=k
  ·subst e
   obtain⟨us,el,h1,h2,h3⟩:=hH.box H.boxes.length (by simp) hon
   have es:sIdx G j j=H.boxes.length:=by unfold sIdx;rw[if_pos rfl,en1]
   have ec:(H.boxes++[cs])[H.boxes.length]'(by simp)=cs:=by simp
   simp only[ec]at h2 h3
   rw[es]
   refine⟨us,el,h1,by rw[hkc];exact h2,fun i i1 i2=> ?_⟩
   refine hrep j hj (.inl rfl) i i2 _ ?_
   have:=h3 i i1 (by rw[←hkc];exact i2)
   simpa only[hkc]using this
  ·have es:sIdx G k j=j:=by unfold sIdx;rw[if_neg e]
   have hh':G.hole j=false:=by simp only[Ghost.settle,if_neg e]at hh;exact hh
   obtain⟨us,el,h1,h2,h3⟩:=hH.box j (by simp;omega) hh'
   have ec:(H.boxes++[cs])[j]'(by simp;omega)=H.boxes[j]:=List.getElem_append_left hj
   simp only[ec]at h2 h3
   rw[es]
   exact⟨us,el,h1,h2,fun i i1 i2=>hrep j hj (.inr hh') i i2 _ (h3 i i1 i2)⟩
 ·rw[settle_μ,settle_μ]at he
  exact hinj i j (hH.μinj _ _ (settle_on hon' hi) (settle_on hon' hj) (hlive i (hlt i hi) li) (hlive j (hlt j hj) lj) he) (hlt i hi) (hlt j hj)
 ·rw[settle_μ]
  exact hH.μlim _ (settle_on hon' hj) (hlive j (hlt j hj) lj)
 ·rw[settle_μ]
  exact hH.μτ _ t (settle_on hon' hj) ht
 ·obtain⟨rec,a1,a2⟩:=hH.loop l hll
  exact⟨rec,a1,a2.settle hk (by rw[en1];exact hl _ (List.getElem_mem hll))⟩
 ·rw[settle_μ]
  exact hg.1 _ (settle_on hon' hj)
theorem Step.settle{G0:Ghost}{w0:World}{k:Nat}(h:Step G0 w0 G w)(h0:G0.nb≤k)(hk:k<G.nb-1)(hon:G.on (G.nb-1)):Step G0 w0 (G.settle k) w:=by
 refine⟨h.os,h.tape,h.output,h.size,h.lim,h.cell,by show G0.nb≤G.nb-1;omega,fun j hj=> ?_,fun j hj=> ?_,fun j hj=> ?_,fun j hj=> ?_,h.nt,h.ext,h.τ,h.tes,h.τnew,h.nl,h.ln,h.lnew,h.frame⟩
 ·simp only[Ghost.settle]
  rw[if_neg (by omega)];exact h.hole j hj
 ·have:=hj.1
  simp only[Ghost.settle]
  rw[if_neg (by omega)];exact h.μ j hj
 ·rw[settle_μ]
  exact h.μnew _ (settle_on hon hj)
 ·have:=hj.1
  simp only[Ghost.settle]
  rw[if_neg (by omega)];exact h.mc j hj
def Ghost.room(G:Ghost)(n:Nat):Ghost:={G with nb:=G.nb+n,hole:=fun j=>if j<G.nb then G.hole j else true}
theorem room_on{n j:Nat}:(G.room n).on j↔G.on j:=by
 unfold Ghost.on Ghost.room
 simp only
 constructor
 ·rintro⟨h1,h2⟩
  split at h2
  ·rename_i h;exact⟨h,h2⟩
  ·cases h2
 ·rintro⟨h1,h2⟩
  rw[if_pos h1]
  exact⟨by omega,h2⟩
theorem Keep.room(n:Nat):Keep G w (G.room n) w:=
 ⟨fun _=>Nat.le_refl _,fun _ _ _=>rfl,Nat.le_add_right _ _,fun _ h=>room_on.2 h,fun _ _=>rfl,Nat.le_refl _,fun _ _=>Nat.le_refl _,fun _ _ _=>⟨rfl,rfl⟩,fun _ _=>rfl,Nat.le_refl _,fun _ _=>rfl,fun _ _=>rfl⟩
theorem Step.room(n:Nat):Step G w (G.room n) w:=
 ⟨rfl,rfl,rfl,Nat.le_refl _,fun _=>Nat.le_refl _,fun _ _ _=>rfl,Nat.le_add_right _ _,fun k hk=>by simp only[Ghost.room,if_pos hk],fun _ _=>rfl,fun k h=>.inl ⟨k,room_on.1 h,rfl⟩,fun _ _=>rfl,Nat.le_refl _,fun _ _=>Nat.le_refl _,
  fun _ _ _=>⟨rfl,rfl⟩,fun _ _=>rfl,fun _ h=>.inl ⟨h,rfl⟩,Nat.le_refl _,fun _ _=>rfl,fun _ h1 h2=>absurd h2 (by simp only[Ghost.room];omega),fun _ _ _ _ _=>⟨rfl,rfl⟩⟩
theorem HRep.room{H:Heap}(hH:HRep P G w H)(cs:List (List AV)):HRep P (G.room cs.length) w {H with boxes:=H.boxes++cs}:=by
 have hk:Keep G w (G.room cs.length) w:=Keep.room _
 have hlv:∀j,G.on j→LiveB {H with boxes:=H.boxes++cs} j→LiveB H j:=fun j hj h=>by
  unfold LiveB at h⊢
  rw[List.getElem?_append_left (by rw[←hH.nb];exact hj.1)]at h
  exact h
 refine⟨hH.base,by show G.nb+cs.length=(H.boxes++cs).length;rw[hH.nb,List.length_append],hH.nt,hH.nl,fun j hj hh=> ?_,fun i j hi hj li lj he=>hH.μinj i j (room_on.1 hi) (room_on.1 hj) (hlv i (room_on.1 hi) li) (hlv j (room_on.1 hj) lj) he,
  fun j hj lj=>hH.μlim j (room_on.1 hj) (hlv j (room_on.1 hj) lj),hH.tok,hH.τinj,fun j t hj ht=>hH.μτ j t (room_on.1 hj) ht,fun l hl=> ?_,hH.linj,hH.glob.turn (fun g hg=>⟨fun j hj=>hg.1 j (room_on.1 hj),hg.2.1,hg.2.2⟩) (fun _ _ _ _ _ h=>h)⟩
 ·have hlt:j<H.boxes.length:=by
   simp only[Ghost.room]at hh
   split at hh
   ·rw[←hH.nb];assumption
   ·cases hh
  have hh':G.hole j=false:=by
   simp only[Ghost.room]at hh
   split at hh
   ·exact hh
   ·cases hh
  obtain⟨us,e,a1,a2,a3⟩:=hH.box j hlt hh'
  have ec:(H.boxes++cs)[j]'(by simp;omega)=H.boxes[j]:=List.getElem_append_left hlt
  simp only[ec]
  exact⟨us,e,a1,a2,fun i i1 i2=>(a3 i i1 i2).keep hk⟩
 ·obtain⟨rec,a1,a2⟩:=hH.loop l hl
  exact⟨rec,a1,a2.step (Step.room _)⟩
theorem through{x:Opd}{T:Env}{k j off:Nat}(hT:∀n,∃u,Rep G w u (T n))(hk:G.hole k=true)(ho:opdOk x=true)(h:ev T x=.ptr j off):j≠k:=by
 cases x with
 |t n=>
  obtain⟨u,hu⟩:=hT n
  have h:T n=.ptr j off:=h
  rw[h]at hu
  cases hu with
  |ptr _ _ hj=>rintro rfl;rw[hj.2]at hk;cases hk
 |c v=>
  have h:v=.ptr j off:=h
  subst h
  simp[opdOk]at ho
theorem throughM{x:Opd}{T:Env}{k j off n es:Nat}(hT:∀n,∃u,Rep G w u (T n))(hk:G.hole k=true)(ho:opdOk x=true)(h:ev T x=.msl j off n es):j≠k:=by
 cases x with
 |t m=>
  obtain⟨u,hu⟩:=hT m
  have h:T m=.msl j off n es:=h
  rw[h]at hu
  cases hu with
  |msl _ _ _ _ _ hj=>rintro rfl;rw[hj.2]at hk;cases hk
 |c v=>
  have h:v=.msl j off n es:=h
  subst h
  simp[opdOk]at ho
theorem exec_hole{call:CallF}{o:AOper}{T:Env}{H H':Heap}{v:AV}{k:Nat}(hT:∀n,∃u,Rep G w u (T n))(hk:G.hole k=true)(hkl:k<H.boxes.length)(hs:storeOk o=true)(h:exec (opStepD call) o T H=some (.val v H')):H'.boxes[k]?=H.boxes[k]?:=by
 obtain⟨B,K,e,-⟩:=exec_frame (H2:=H) h (fun _=>rfl) (fun _=>rfl) rfl
 have e:H'=mix (clsOf o.op) B K H:=e
 cases hw:wrB (clsOf o.op)with
 |false=>rw[e];unfold mix;rw[hw];rfl
 |true=>
  by_cases ha:clsOf o.op=.alloc
  ·obtain⟨B',hB⟩:=alloc_grows h ha
   rw[hB,List.getElem?_append_left hkl]
  ·unfold exec at h
   split at h
   ·unfold storeOk at hs
    cases hop:o.op with
    |store n x y=>
     rw[hop]at h hs
     simp only at hs
     simp only[opStepD,opStep,storeA]at h
     cases hx:ev T x with
     |ptr j off=>
      have hne:=through hT hk hs hx
      rw[hx]at h
      simp only at h
      split at h
      ·rename_i H2 h2
       simp only[Option.some.injEq,Out.val.injEq]at h
       obtain⟨-,rfl⟩:=h
       split at h2
       ·split at h2
        ·simp only[Option.some.injEq]at h2
         subst h2
         exact List.getElem?_set_ne hne
        ·cases h2
       ·cases h2
      ·cases h
     |_=>rw[hx]at h;simp at h
    |appendM es b x y=>
     rw[hop]at h hs
     simp only at hs
     simp only[opStepD,opStep]at h
     split at h
     ·rename_i r hr
      simp only[Option.some.injEq,Out.val.injEq]at h
      obtain⟨-,rfl⟩:=h
      unfold appendMA at hr
      split at hr
      ·rename_i m
       split at hr
       ·simp only[Option.some.injEq]at hr;rw[←hr]
       ·split at hr
        ·simp only[Option.some.injEq]at hr
         rw[←hr,List.getElem?_append_left hkl]
        ·cases hr
      ·rename_i j off n es' sk m hx hy
       have hne:=throughM hT hk hs hx
       split at hr
       ·simp only[Option.some.injEq]at hr;rw[←hr]
       ·split at hr
        ·split at hr
         ·simp only[Option.some.injEq]at hr
          rw[←hr]
          simp only
          rw[List.getElem?_append_left (by simpa using hkl),List.getElem?_set_ne hne]
         ·cases hr
        ·cases hr
      ·cases hr
     ·cases h
    |clearM z x=>
     rw[hop]at h hs
     simp only at hs
     simp only[opStepD,opStep]at h
     split at h
     ·rename_i H2 hr
      simp only[Option.some.injEq,Out.val.injEq]at h
      obtain⟨-,rfl⟩:=h
      unfold clearA at hr
      split at hr
      ·simp only[Option.some.injEq]at hr;rw[←hr]
      ·rename_i j off n es hx
       have hne:=throughM hT hk hs hx
       split at hr
       ·split at hr
        ·simp only[Option.some.injEq]at hr
         rw[←hr]
         exact List.getElem?_set_ne hne
        ·cases hr
       ·cases hr
      ·cases hr
     ·cases h
    |_=>rw[hop]at hw ha;first|(exact absurd rfl ha)|(simp[clsOf,wrB]at hw;done)
   ·simp only[Option.some.injEq,Out.val.injEq]at h
    rw[←h.2]
   ·cases h
theorem kept_inv{o:AOper}{z:AV}(h:kept o=some z):∃d,o=⟨some d,.box (.c z),none,o.deps⟩∧z≠.undef∧(∀vs,z≠.tuple vs)∧z.cells.all data0=true:=by
 obtain⟨dst,op,guard,deps⟩:=o
 unfold kept at h
 split at h
 ·rename_i d hg hd
  simp only at hg hd
  subst hg;subst hd
  unfold keptOp at h
  split at h
  ·rename_i y hop
   simp only at hop
   subst hop
   split at h
   ·cases h
   ·cases h
   ·rename_i y' h1 h2
    split at h
    ·rename_i hc
     simp only[Option.some.injEq]at h
     subst h
     exact⟨d,rfl,h1,h2,hc⟩
    ·cases h
  ·cases h
 ·cases h
def rankR:List AOper→Nat→Nat
 |[],_=>0
 |_::_,0=>0
 |o::r,i+1=>(match kept o with|some _=>1|none=>0)+rankR r i
def rv(x:Nat)(a:AOper):AOper:=match kept a with
 |some _=>{a with op:=.mov (.c (.ptr x 0))}
 |none=>a
theorem resv_len:∀(n:Nat)(l:List AOper),(resv n l).length=l.length
 |_,[]=>rfl
 |n,o::r=>by
  unfold resv
  split<;>simp[resv_len _ r]
theorem resv_get:∀(n:Nat)(l:List AOper)(i:Nat)(hi:i<l.length),(resv n l)[i]?=some (rv (n+rankR l i) l[i])
 |n,o::r,0,hi=>by
  unfold resv
  cases hk:kept o with
  |some z=>simp[rv,hk,rankR]
  |none=>simp[rv,hk]
 |n,o::r,i+1,hi=>by
  have hi':i<r.length:=by simpa using hi
  unfold resv
  cases hk:kept o with
  |some z=>
   simp only[List.getElem?_cons_succ,List.getElem_cons_succ]
   rw[resv_get (n+1) r i hi']
   simp only[rankR,hk]
   rw[show n+1+rankR r i=n+(1+rankR r i)by omega]
  |none=>
   simp only[List.getElem?_cons_succ,List.getElem_cons_succ]
   rw[resv_get n r i hi']
   simp only[rankR,hk,Nat.zero_add]
theorem cells_get:∀(l:List AOper)(i:Nat)(hi:i<l.length)(z:AV),kept l[i]=some z→(resvCells l)[rankR l i]?=some z.cells
 |o::r,0,hi,z,h=>by
  have h:kept o=some z:=h
  unfold resvCells
  rw[h];rfl
 |o::r,i+1,hi,z,h=>by
  have hi':i<r.length:=by simpa using hi
  have h:kept r[i]=some z:=h
  have ih:=cells_get r i hi' z h
  unfold resvCells
  cases hk:kept o with
  |some y=>simp only[rankR,hk];rw[Nat.add_comm,List.getElem?_cons_succ];exact ih
  |none=>simp only[rankR,hk,Nat.zero_add];exact ih
theorem rankR_lt:∀(l:List AOper)(i j:Nat)(hi:i<l.length),i<j→(kept l[i]).isSome=true→rankR l i<rankR l j
 |o::r,0,j+1,hi,_,h=>by
  have h:(kept o).isSome=true:=h
  cases hk:kept o with
  |none=>rw[hk]at h;cases h
  |some z=>simp only[rankR,hk];omega
 |o::r,i+1,j+1,hi,hij,h=>by
  have:=rankR_lt r i j (by simpa using hi) (by omega) h
  simp only[rankR];omega
theorem rankR_inj{l:List AOper}{i j:Nat}(hi:i<l.length)(hj:j<l.length)(h1:(kept l[i]).isSome=true)(h2:(kept l[j]).isSome=true)(e:rankR l i=rankR l j):i=j:=by
 rcases Nat.lt_trichotomy i j with h|h|h
 ·have:=rankR_lt l i j hi h h1;omega
 ·exact h
 ·have:=rankR_lt l j i hj h h2;omega
theorem resv_deps:∀(n:Nat)(l:List AOper),(resv n l).map (·.deps)=l.map (·.deps)
 |_,[]=>rfl
 |n,o::r=>by
  unfold resv
  split<;>simp[resv_deps _ r]
theorem apart_rv{a b:AOper}{x y x' y':Nat}:apartA (rv x a) (rv y b)=apartA (rv x' a) (rv y' b):=by
 unfold rv
 cases kept a<;>cases kept b<;>rfl
theorem rv_deps{a:AOper}{x:Nat}:(rv x a).deps=a.deps:=by
 unfold rv
 cases kept a<;>rfl
end Go.Aa
set_option linter.unusedVariables false
set_option linter.unusedSimpArgs false
namespace Go.Aa
open Go.RowKit
variable{P:Program}{G G':Ghost}{w w':World}
variable{mu:Bool}
theorem addTo_mem{x:Nat}:∀(l s:List Nat),x∈l.foldl (fun s x=>if s.contains x then s else x::s) s↔x∈s∨x∈l
 |[],s=>by simp
 |y::l,s=>by
  rw[List.foldl_cons,addTo_mem l]
  by_cases h:s.contains y=true
  ·rw[if_pos h]
   have:y∈s:=by simpa using h
   constructor
   ·rintro(h1|h1)
    ·exact .inl h1
    ·exact .inr (List.mem_cons_of_mem _ h1)
   ·rintro(h1|h1)
    ·exact .inl h1
    ·rcases List.mem_cons.1 h1 with rfl|h1
     ·exact .inl this
     ·exact .inr h1
  ·rw[if_neg h]
   simp only[List.mem_cons]
   constructor
   ·rintro((rfl|h1)|h1)<;>simp[*]
   ·rintro(h1|(rfl|h1))<;>simp[*]
theorem deps_mem{acc:List (List Nat)}{x:Nat}(es:List Edge):x∈depsOf acc es↔∃e∈es,hard e=true∧(x=e.on∨x∈acc.getD e.on []):=by
 have key:∀(es:List Edge)(s:List Nat),x∈es.foldl (fun s e=>(e.on::acc.getD e.on []).foldl (fun s x=>if s.contains x then s else x::s) s) s↔x∈s∨∃e∈es,x=e.on∨x∈acc.getD e.on []:=by
  intro es
  induction es with
  |nil=>intro s;simp
  |cons e es ih=>
   intro s
   rw[List.foldl_cons,ih,addTo_mem]
   simp only[List.mem_cons,exists_eq_or_imp]
   constructor
   ·rintro((h|h|h)|h)
    ·exact .inl h
    ·exact .inr (.inl (.inl h))
    ·exact .inr (.inl (.inr h))
    ·exact .inr (.inr h)
   ·rintro(h|(h|h)|h)
    ·exact .inl (.inl h)
    ·exact .inl (.inr (.inl h))
    ·exact .inl (.inr (.inr h))
    ·exact .inr h
 unfold depsOf
 rw[key]
 simp only[List.not_mem_nil,false_or,List.mem_filter]
 constructor
 ·rintro⟨e,⟨h1,h2⟩,h3⟩;exact⟨e,h1,h2,h3⟩
 ·rintro⟨e,h1,h2,h3⟩;exact⟨e,⟨h1,h2⟩,h3⟩
theorem binds_any(e:Edge):Region.binds .any e=hard e:=by
 unfold Region.binds hard
 cases e.ground<;>rfl
theorem drawOk_spec{ops:List AOper}(h:drawOk ops=true):(∀j(hj:j<ops.length),∀d∈(ops[j]).deps,d<j)∧
 ∀i j(hi:i<ops.length)(hj:j<ops.length),i<j→(ops[j]).deps.contains i=true∨apartA ops[i] ops[j]=true:=by
 simp only[drawOk,List.all_eq_true,Bool.and_eq_true,Bool.or_eq_true,decide_eq_true_eq]at h
 refine⟨fun j hj d hd=> ?_,fun i j hi hj hij=> ?_⟩
 ·exact(h (ops[j],j) (by rw[List.mem_zipIdx_iff_getElem?];simp[hj])).1 d hd
 ·have:=(h (ops[j],j) (by rw[List.mem_zipIdx_iff_getElem?];simp[hj])).2 (ops[i],i) (by rw[List.mem_zipIdx_iff_getElem?];simp[hi])
  rcases this with(h1|h1)|h1
  ·simp only at h1;omega
  ·exact .inl h1
  ·exact .inr h1
structure Left(az:List AOper)(listed:Array Bool)(R:List (AOper×Nat)):Prop where
 mem:∀x∈R,az[x.2]?=some x.1∧listed.getD x.2 true=false
 all:∀j,j<az.length→listed.getD j true=false→∃x∈R,x.2=j
 sorted:R.Pairwise (fun x y=>x.2<y.2)
 size:listed.size=az.length
 closed:∀j(hj:j<az.length),listed.getD j false=true→∀d∈(az[j]).deps,listed.getD d false=true
theorem getD_ft{l:Array Bool}{i:Nat}(h:i<l.size):l.getD i false=l.getD i true:=by simp[h]
theorem draw_from {call : CallF} (hc : CallSound P call) {nt : Nat} {ops : Array Oper} {az : List AOper} (hco : cOpers P mu nt ops [] ops.toList = some az) (hok : drawOk2 az = true) {ro : Option Nat} {Q : Exit → Act → World → Prop} {G0 : Ghost} {w0 : World} :
    ∀ (R : List (AOper × Nat)) (fuel : Nat) (listed : Array Bool) {G : Ghost} {w : World} {a : Act} {T : Env} {H : Heap} {out : OutE}, R.length = fuel → Left (resv G0.nb az) listed R → TRep G w nt a.tmps T → HRep P G w H → Step G0 w0 G w →
      (∀ x ∈ R, ∀ o z, az[x.2]? = some o → kept o = some z → G.hole (G0.nb + rankR az x.2) = true ∧ G0.nb + rankR az x.2 < G.nb ∧ H.boxes[G0.nb + rankR az x.2]? = some z.cells) →
      runP call R none T H = some out → (∀ e a' w', RegPost P G0 w0 nt a.defers out e a' w' → Q e a' w') → wpAnyIn (W ro) 0 P .any ops Q fuel listed a w := by
  obtain ⟨hlen, hget⟩ := cOpers_get hco
  have hok1 : drawOk (resv 0 az) = true := by unfold drawOk2 at hok; rw [Bool.and_eq_true] at hok; exact hok.1
  have hst2 : az.all storeOk = true := by unfold drawOk2 at hok; rw [Bool.and_eq_true] at hok; exact hok.2
  have hgetr : ∀ (n i : Nat) (hi : i < (resv n az).length), (resv n az)[i] = rv (n + rankR az i) (az[i]'(by rw [resv_len] at hi; exact hi)) := fun n i hi => by
    have h1 := resv_get n az i (by rw [resv_len] at hi; exact hi)
    rw [List.getElem?_eq_getElem hi] at h1
    exact Option.some.inj h1
  have hdlt : ∀ j (hj : j < (resv G0.nb az).length), ∀ d ∈ ((resv G0.nb az)[j]).deps, d < j := fun j hj d hd => by
    refine (drawOk_spec hok1).1 j (by rw [resv_len] at hj ⊢; exact hj) d ?_
    rw [hgetr, rv_deps] at hd ⊢
    exact hd
  have hpair : ∀ i j (hi : i < (resv G0.nb az).length) (hj : j < (resv G0.nb az).length), i < j → ((resv G0.nb az)[j]).deps.contains i = true ∨ apartA (resv G0.nb az)[i] (resv G0.nb az)[j] = true := fun i j hi hj hij => by
    have := (drawOk_spec hok1).2 i j (by rw [resv_len] at hi ⊢; exact hi) (by rw [resv_len] at hj ⊢; exact hj) hij
    rw [hgetr, hgetr, rv_deps] at this
    rw [hgetr, hgetr, rv_deps]
    rcases this with h | h
    · exact .inl h
    · right
      rw [← h]; exact apart_rv
  generalize haz : resv G0.nb az = az' at *
  have hlq : az'.length = az.length := by rw [← haz, resv_len]
  have hlen' : az'.length = ops.size := by rw [hlq]; simpa using hlen
  have hmd : az'.map (·.deps) = az.map (·.deps) := by rw [← haz, resv_deps]
  have hdeps : ∀ j (hj : j < az'.length) (ho : j < ops.size), ∀ x, x ∈ (az'[j]).deps ↔ ∃ e ∈ (ops[j]).after.toList, hard e = true ∧ (x = e.on ∨ x ∈ ((az'.take j).map (·.deps)).getD e.on []) := by
    intro j hj ho x
    have := cOper_inv (hget j (by simpa using ho) (by omega))
    have e1 : (az'[j]).deps = (az[j]'(by omega)).deps := by
      have h1 : (az'.map (·.deps))[j]? = (az.map (·.deps))[j]? := by rw [hmd]
      rw [List.getElem?_map, List.getElem?_map, List.getElem?_eq_getElem hj, List.getElem?_eq_getElem (show j < az.length by omega)] at h1
      exact Option.some.inj h1
    have e2 : (az'.take j).map (·.deps) = (az.map (·.deps)).take j := by rw [List.map_take, hmd]
    rw [e1, this.2.2.2.1, deps_mem, e2]
    simp
  have hready0 : ∀ {R : List (AOper × Nat)} {listed : Array Bool}, Left az' listed R → Region.ready .any ops listed = [] → R = [] := by
    intro R listed hl h
    cases R with
    | nil => rfl
    | cons x R =>
      exfalso
      obtain ⟨hx1, hx2⟩ := hl.mem x (by simp)
      have hxl : x.2 < az'.length := (List.getElem?_eq_some_iff.1 hx1).1
      have : x.2 ∈ Region.ready .any ops listed := by
        refine mem_ready.2 ⟨hx2, ops[x.2], by simp [← hlen', hxl], fun e he hb => ?_⟩
        rw [binds_any] at hb
        have hon : e.on ∈ (az'[x.2]).deps := (hdeps x.2 hxl (by omega) e.on).2 ⟨e, by simpa using he, hb, .inl rfl⟩
        have hlt := hdlt x.2 hxl _ hon
        cases hd : listed.getD e.on false with
        | true => rfl
        | false =>
          rw [getD_ft (by rw [hl.size]; omega)] at hd
          obtain ⟨y, hy, hye⟩ := hl.all e.on (by omega) hd
          rcases List.mem_cons.1 hy with rfl | hy
          · omega
          · have := (List.pairwise_cons.1 hl.sorted).1 y hy
            omega
      rw [h] at this
      cases this
  intro R fuel
  induction fuel generalizing R with
  | zero =>
    intro listed G w a T H out hR hl hT hH hs0 hinv h hQ
    have hnil : R = [] := List.eq_nil_of_length_eq_zero hR
    subst hnil
    simp only [runP, Option.some.injEq] at h
    subst h
    refine ⟨?_, hQ _ _ _ ⟨G, T, H, rfl, hs0, hT, hH, rfl⟩⟩
    cases hr : Region.ready .any ops listed with
    | nil => rfl
    | cons i rs =>
      exfalso
      have hi : i ∈ Region.ready .any ops listed := by rw [hr]; simp
      obtain ⟨h1, o, h2, _⟩ := mem_ready.1 hi
      obtain ⟨x, hx, _⟩ := hl.all i (by rw [hlen']; exact (Array.getElem?_eq_some_iff.1 h2).1) h1
      cases hx
  | succ fuel ih =>
    intro listed G w a T H out hR hl hT hH hs0 hinv h hQ
    refine ⟨fun h0 => ?_, fun i hi => ?_⟩
    · have := hready0 hl h0
      subst this
      simp at hR
    · obtain ⟨h1, o, h2, h3⟩ := mem_ready.1 hi
      obtain ⟨hio, rfl⟩ := Array.getElem?_eq_some_iff.1 h2
      have hil : i < az'.length := by omega
      obtain ⟨x, hx, hxi⟩ := hl.all i hil h1
      obtain ⟨x1, x2⟩ := x
      simp only at hxi
      subst hxi
      have hxa : az'[x2] = x1 := by
        have := (hl.mem _ hx).1
        rw [List.getElem?_eq_getElem hil] at this
        exact Option.some.inj this
      -- all that it stands behind is done
      have hdone : ∀ d ∈ x1.deps, listed.getD d false = true := by
        intro d hd
        rw [← hxa] at hd
        obtain ⟨e, he, hh, hor⟩ := (hdeps x2 hil hio d).1 hd
        have hone := h3 e (by simpa using he) (by rw [binds_any]; exact hh)
        rcases hor with rfl | hin
        · exact hone
        · have hel : e.on < x2 := hdlt x2 hil _ ((hdeps x2 hil hio e.on).2 ⟨e, he, hh, .inl rfl⟩)
          have : ((az'.take x2).map (·.deps)).getD e.on [] = (az'[e.on]).deps := by
            rw [List.getD_eq_getElem?_getD]
            simp [hel, show e.on < az'.length by omega]
          rw [this] at hin
          exact hl.closed e.on (by omega) hone d hin
      obtain ⟨A, B, rfl⟩ := List.append_of_mem hx
      have hnone : ∀ b ∈ A ++ B, x1.deps.contains b.2 = false := by
        intro b hb
        have hb' : b ∈ A ++ (x1, x2) :: B := by
          rcases List.mem_append.1 hb with hb | hb
          · exact List.mem_append_left _ hb
          · exact List.mem_append_right _ (List.mem_cons_of_mem _ hb)
        have hu := hl.mem b hb'
        cases hcon : x1.deps.contains b.2 with
        | false => rfl
        | true =>
          have := hdone b.2 (by simpa using hcon)
          have hbl := (List.getElem?_eq_some_iff.1 hu.1).1
          rw [getD_ft (by rw [hl.size]; exact hbl), hu.2] at this
          cases this
      have hp : (A ++ (x1, x2) :: B).Pairwise (fun x y => y.1.deps.contains x.2 = true ∨ apartA x.1 y.1 = true) := by
        refine hl.sorted.imp_of_mem fun {u v} hu hv huv => ?_
        have mu := (hl.mem u hu).1
        have mv := (hl.mem v hv).1
        obtain ⟨lu, eu⟩ := List.getElem?_eq_some_iff.1 mu
        obtain ⟨lv, ev⟩ := List.getElem?_eq_some_iff.1 mv
        have := hpair u.2 v.2 lu lv huv
        rw [eu, ev] at this
        exact this
      obtain ⟨oi, f1, f2⟩ := front hp (fun b hb => hnone b (List.mem_append_left _ hb)) h
      have hsplit := List.pairwise_append.1 hl.sorted
      have hl' : Left az' (listed.setIfInBounds x2 true) (A ++ B) := by
        refine ⟨fun y hy => ?_, fun j hj hu => ?_, ?_, by simpa using hl.size, fun j hj hu d hd => ?_⟩
        · have hy' : y ∈ A ++ (x1, x2) :: B := by
            rcases List.mem_append.1 hy with hb | hb
            · exact List.mem_append_left _ hb
            · exact List.mem_append_right _ (List.mem_cons_of_mem _ hb)
          have hne : y.2 ≠ x2 := by
            rcases List.mem_append.1 hy with hb | hb
            · have := hsplit.2.2 y hb (x1, x2) (by simp)
              simp only at this; omega
            · have := (List.pairwise_cons.1 hsplit.2.1).1 y hb
              simp only at this; omega
          exact ⟨(hl.mem y hy').1, by rw [getD_set_ne true (Ne.symm hne)]; exact (hl.mem y hy').2⟩
        · have hne : x2 ≠ j := by
            rintro rfl
            have hlt : x2 < listed.size := by rw [hl.size]; exact hj
            simp [hlt] at hu
          rw [getD_set_ne true hne] at hu
          obtain ⟨y, hy, hyj⟩ := hl.all j hj hu
          refine ⟨y, ?_, hyj⟩
          rcases List.mem_append.1 hy with hb | hb
          · exact List.mem_append_left _ hb
          · rcases List.mem_cons.1 hb with rfl | hb
            · simp only at hyj; exact absurd hyj hne
            · exact List.mem_append_right _ hb
        · exact List.pairwise_append.2 ⟨hsplit.1, (List.pairwise_cons.1 hsplit.2.1).2, fun u hu v hv => hsplit.2.2 u hu v (List.mem_cons_of_mem _ hv)⟩
        · by_cases hne : x2 = j
          · subst hne
            rw [hxa] at hd
            exact getD_set_true (hdone d hd)
          · rw [getD_set_ne false hne] at hu
            exact getD_set_true (hl.closed j hj hu d hd)
      have hil2 : x2 < az.length := by omega
      have hci := hget x2 (by simpa using hio) hil2
      have hx1 : x1 = rv (G0.nb + rankR az x2) az[x2] := by
        rw [← hxa]
        subst haz
        exact hgetr G0.nb x2 hil
      have hrest : ∀ y ∈ A ++ B, y.2 ≠ x2 ∧ y ∈ A ++ (x1, x2) :: B := fun y hy => by
        have hy' : y ∈ A ++ (x1, x2) :: B := by
          rcases List.mem_append.1 hy with hb | hb
          · exact List.mem_append_left _ hb
          · exact List.mem_append_right _ (List.mem_cons_of_mem _ hb)
        refine ⟨?_, hy'⟩
        rcases List.mem_append.1 hy with hb | hb
        · have := hsplit.2.2 y hb (x1, x2) (by simp)
          simp only at this; omega
        · have := (List.pairwise_cons.1 hsplit.2.1).1 y hb
          simp only at this; omega
      cases hkp : kept az[x2] with
      | none =>
        unfold rv at hx1
        rw [hkp] at hx1
        simp only at hx1
        rw [← hx1] at hci
        have f1' : exec (opStep call) x1 T H = some oi := exec_step f1
        have hso : storeOk x1 = true := by rw [hx1]; exact List.all_eq_true.1 hst2 _ (List.getElem_mem hil2)
        refine index_sound hc (o := ops[x2]) (by simp [hio]) (by simpa using hci) hT hH f1' (fun v H' a' w' G' e hst hh ht hdf => ?_) (fun v H' r w' G' e hst hh hr => ?_)
        · subst e
          refine ih (A ++ B) _ (by simp at hR ⊢; omega) hl' ht hh (hs0.trans hst) (fun y hy o z ho hz => ?_) f2 fun e a2 w2 hq => hQ _ _ _ (by rw [hdf] at hq; exact hq)
          obtain ⟨i1, i2, i3⟩ := hinv y (hrest y hy).2 o z ho hz
          exact ⟨(hst.hole _ i2).trans i1, Nat.lt_of_lt_of_le i2 hst.nb, (exec_hole (fun n => ⟨_, hT.get n⟩) i1 (by rw [← hH.nb]; exact i2) hso f1).trans i3⟩
        · subst e
          simp only at f2
          subst f2
          exact hQ _ _ _ ⟨r, v, H', G', rfl, rfl, hs0.trans hst, hh, hr, rfl⟩
      | some z =>
        unfold rv at hx1
        rw [hkp] at hx1
        simp only at hx1
        obtain ⟨i1, i2, i3⟩ := hinv (x1, x2) (by simp) az[x2] z (List.getElem?_eq_getElem hil2) hkp
        simp only at i1 i2 i3
        obtain ⟨d, ed, z1, z2, z3⟩ := kept_inv hkp
        rw [ed] at hx1 hci
        generalize (az[x2]).deps = dd at *
        generalize hkk : G0.nb + rankR az x2 = k at *
        have hoi : oi = .val (.ptr k 0) H := by
          rw [hx1] at f1
          simpa [exec, wantedA, opStepD, opStep, pureOp, ev] using f1.symm
        subst hoi
        simp only at f2
        have hbx : exec (opStep call) ⟨some d, .box (.c z), none, dd⟩ T H = some (.val (.ptr H.boxes.length 0) { H with boxes := H.boxes ++ [z.cells] }) := by
          simp only [exec, wantedA, opStep, ev]
          cases z <;> first | rfl | exact absurd rfl z1 | exact absurd rfl (z2 _)
        refine index_sound hc (o := ops[x2]) (by simp [hio]) (by simpa using hci) hT hH hbx (fun v H' a' w' G' e hst hh ht hdf => ?_) (fun v H' r w' G' e hst hh hr => by cases e)
        simp only [Out.val.injEq] at e
        obtain ⟨rfl, rfl⟩ := e
        have enb : G'.nb = H.boxes.length + 1 := by rw [hh.nb]; simp
        have en1 : G'.nb - 1 = G.nb := by rw [enb, hH.nb]; omega
        have hk' : G'.hole k = true := (hst.hole _ i2).trans i1
        have hd1 := ht.get d
        rw [show setD T (some d) (.ptr H.boxes.length 0) d = .ptr H.boxes.length 0 by simp [setD, upd]] at hd1
        have hon : G'.on H.boxes.length := by
          generalize a'.tmps.getD d undef = u at hd1
          cases hd1 with
          | ptr _ _ h => exact h
        have hon1 : G'.on (G'.nb - 1) := by rw [en1, hH.nb]; exact hon
        have hset := HRep.settle hh hk' i3 hon.2 (fun j hj hq x hx v hr => by
          rcases hq with rfl | hq
          · have e1 : H.boxes[j] = z.cells := by
              rw [List.getElem?_eq_getElem hj] at i3
              exact Option.some.inj i3
            rw [e1] at hx
            exact ⟨0, 0, .data _ (data0_data (List.all_eq_true.1 z3 x hx) hr)⟩
          · have hj2 : G.hole j = false := by rw [← hst.hole j (by rw [hH.nb]; exact hj)]; exact hq
            obtain ⟨us, el, -, ⟨b2, -⟩, b3⟩ := hH.box j hj hj2
            obtain ⟨i, hi, rfl⟩ := List.getElem_of_mem hx
            have := (b3 i (by omega) hi).fits
            rw [hH.nb] at this
            exact ⟨_, _, this⟩) (fun r hr => by
          obtain ⟨l, hl, rfl⟩ := List.getElem_of_mem hr
          obtain ⟨rec, -, b⟩ := hH.loop l hl
          have := b.fits.1
          rw [hH.nb] at this
          exact this)
        have htr : TRep (G'.settle k) w' nt a'.tmps (setD T (some d) (.ptr k 0)) := by
          refine ⟨ht.size, fun i => ?_⟩
          have hi := ht.get i
          by_cases e : i = d
          · subst e
            rw [show setD T (some i) (.ptr H.boxes.length 0) i = .ptr H.boxes.length 0 by simp [setD, upd]] at hi
            rw [show setD T (some i) (.ptr k 0) i = .ptr k 0 by simp [setD, upd]]
            generalize a'.tmps.getD i undef = u at hi
            cases hi with
            | ptr _ _ h =>
              have eμ : (G'.settle k).μ k = G'.μ H.boxes.length := by simp only [Ghost.settle, if_pos]; rw [en1, hH.nb]
              rw [← eμ]
              exact .ptr k 0 ⟨by show k < G'.nb - 1; rw [en1]; exact i2, by simp [Ghost.settle]⟩
          · rw [show setD T (some d) (.ptr H.boxes.length 0) i = T i by simp only [setD]; rw [upd_eq, if_neg e]] at hi
            rw [show setD T (some d) (.ptr k 0) i = T i by simp only [setD]; rw [upd_eq, if_neg e]]
            have hf := (hT.get i).fits
            exact hi.settle hk' (by rw [en1]; exact hf)
        have hs2 : Step G0 w0 (G'.settle k) w' := (hs0.trans hst).settle (by omega) (by rw [en1]; exact i2) hon1
        rw [hx1] at f2
        refine ih (A ++ B) _ (by simp at hR ⊢; omega) hl' htr hset hs2 (fun y hy o z' ho hz => ?_) f2 fun e a2 w2 hq => hQ _ _ _ (by rw [hdf] at hq; exact hq)
        obtain ⟨j1, j2, j3⟩ := hinv y (hrest y hy).2 o z' ho hz
        have hyl := (List.getElem?_eq_some_iff.1 ho).1
        have hne : G0.nb + rankR az y.2 ≠ k := by
          intro e
          refine (hrest y hy).1 (rankR_inj hyl hil2 ?_ (by rw [hkp]; rfl) (by omega))
          rw [(List.getElem?_eq_some_iff.1 ho).2, hz]; rfl
        refine ⟨?_, by show _ < G'.nb - 1; rw [en1]; exact j2, j3⟩
        simp only [Ghost.settle, if_neg hne]
        exact (hst.hole _ j2).trans j1
theorem region_sound{call:CallF}(hc:CallSound P call)(hm:P.follows .mixedOrders=true){nt:Nat}{ops:Array Oper}{az:List AOper}(hco:cOpers P mu nt ops [] ops.toList=some az){draw:Bool}(hok:draw=true→drawOk2 az=true)
 {ro:Option Nat}{a:Act}{T:Env}{H:Heap}{out:OutE}(hT:TRep G w nt a.tmps T)(hH:HRep P G w H)(h:regionA call draw az T H=some out){id:Nat}:
 (Code.region id ops draw).wpIn (W ro) 0 P (RegPost P G w nt a.defers out) a w:=by
 have hlen:=(cOpers_get hco).1
 cases draw with
 |false=>
  refine wpIn_region ?_
  have:=seq_from hc hco (ro:=ro) (Q:=RegPost P G w nt a.defers out) ops.size 0 (by omega) hT hH (by simpa[regionA]using h) (fun _ _ _ h=>h)
  rwa [←List.range_eq_range']at this
 |true=>
  have hg:Grow G w G w.drew:=.drew hH.base
  refine wpIn_region_any hm ?_
  have hrun:runP call (resv H.boxes.length az).zipIdx none T {H with boxes:=H.boxes++resvCells az}=some out:=by rw[←runD_runP,←roomH_eq];simpa[regionA]using h
  have hs1:Step G w G w.drew:=hg.step hH.base
  have hs2:Step G w (G.room (resvCells az).length) w.drew:=hs1.trans (Step.room _)
  have hlq:(resv G.nb az).length=ops.size:=by rw[resv_len];simpa using hlen
  rw[←hH.nb]at hrun
  refine draw_from hc hco (hok rfl) (G0:=G) (w0:=w) (resv G.nb az).zipIdx ops.size _ (w:=w.drew) (G:=G.room (resvCells az).length) (by simpa using hlq) ?_ (hT.step hs2) ((hH.grow hg).room (resvCells az)) hs2 (fun x hx o z ho hz=> ?_) hrun fun e a' w' hq=>hq
  ·refine⟨fun x hx=> ?_,fun j hj hu=> ?_,?_,by simp;exact hlq.symm,fun j hj hu=> ?_⟩
   ·rw[List.mem_zipIdx_iff_getElem?]at hx
    have hlt:=(List.getElem?_eq_some_iff.1 hx).1
    refine⟨hx,?_⟩
    have:x.2<ops.size:=by omega
    simp[this]
   ·exact⟨((resv G.nb az)[j],j),by rw[List.mem_zipIdx_iff_getElem?];simp[hj],rfl⟩
   ·rw[List.pairwise_iff_getElem]
    intro i j hi hj hij
    simp only[List.getElem_zipIdx]
    omega
   ·exfalso
    by_cases hlt:j<ops.size
    ·simp[hlt]at hu
    ·simp[hlt]at hu
  ·obtain⟨ho1,ho2⟩:=List.getElem?_eq_some_iff.1 ho
   have hc2:=cells_get az x.2 ho1 z (by rw[ho2];exact hz)
   have hlt:=(List.getElem?_eq_some_iff.1 hc2).1
   refine⟨?_,?_,?_⟩
   ·simp only[Ghost.room]
    rw[if_neg (by omega)]
   ·show G.nb+_<G.nb+_
    omega
   ·show(H.boxes++resvCells az)[G.nb+rankR az x.2]?=_
    rw[hH.nb,List.getElem?_append_right (by omega),Nat.add_sub_cancel_left]
    exact hc2
end Go.Aa
set_option linter.unusedVariables false
set_option linter.unusedSimpArgs false
namespace Go.Aa
open Go.RowKit
variable{P:Program}{G G':Ghost}{w w':World}
variable{mu:Bool}
def Bare:Obj→Prop
 |.cells .. =>False
 |_=>True
theorem putObj_keep{b:Nat}{o1 o2:Obj}(h:w.heap[b]?=some o1)(h1:Bare o1)(h2:Bare o2):Keep G w G (w.putObj b o2):=by
 refine⟨fun _=>Nat.le_refl _,fun c off ho=> ?_,Nat.le_refl _,fun _ h=>h,fun _ _=>rfl,Nat.le_refl _,fun _ _=>Nat.le_refl _,fun _ _ _=>⟨rfl,rfl⟩,fun _ _=>rfl,Nat.le_refl _,fun _ _=>rfl,fun _ _=>rfl⟩
 by_cases hc:c=b
 ·subst hc
  have hlt:=(Array.getElem?_eq_some_iff.1 h).1
  unfold World.cell?
  simp only
  rw[World.putObj_heap_same hlt,h]
  cases o1<;>cases o2<;>first|rfl|exact h1.elim|exact h2.elim
 ·unfold World.cell?
  simp only
  rw[World.putObj_heap_other hc]
theorem Step.putObj{G0:Ghost}{w0:World}{b:Nat}{o1 o2:Obj}(hst:Step G0 w0 G w)(h:w.heap[b]?=some o1)(h1:Bare o1)(h2:Bare o2)(hb:w0.heap.size≤b∨∃k,k<G0.nl∧b=G0.ln k):Step G0 w0 G (w.putObj b o2):=by
 have hk:=putObj_keep (G:=G) h h1 h2
 refine⟨hst.os,hst.tape,hst.output,by simpa using hst.size,hst.lim,fun c off ho=> ?_,hst.nb,hst.hole,hst.μ,hst.μnew,hst.mc,hst.nt,hst.ext,hst.τ,hst.tes,hst.τnew,hst.nl,hst.ln,hst.lnew,fun c hc k1 k2 k3=> ?_⟩
 ·rw[hk.cell c off (Nat.lt_of_lt_of_le ho (hst.lim c))]
  exact hst.cell c off ho
 ·obtain⟨e1,e2⟩:=hst.frame c hc k1 k2 k3
  refine⟨?_,e2⟩
  rw[World.putObj_heap_other ?_,e1]
  rintro rfl
  rcases hb with hb|⟨k,hk',rfl⟩
  ·omega
  ·exact k3 k hk' rfl
theorem LRep.keep{r:LRec}{rec:Loop}(h:LRep P G w r rec)(hk:Keep G w G' w'):LRep P G' w' r rec:=by
 obtain⟨h1,h2,h3,h5,⟨f1,f2,f3,f4⟩,mu,nt,h4,h6⟩:=h
 exact⟨h1,h2,h3,h5,⟨Nat.le_trans f1 hk.nb,Nat.le_trans f2 hk.nt,Nat.le_trans f3 hk.nl,f4⟩,mu,nt,⟨h4.size,fun i=>(h4.get i).keep hk⟩,h6⟩
theorem HRep.putObj{H:Heap}(hH:HRep P G w H){b:Nat}{o1 o2:Obj}(h:w.heap[b]?=some o1)(h1:Bare o1)(h2:Bare o2)(hb:∀k,k<G.nl→b≠G.ln k):HRep P G (w.putObj b o2) H:=by
 have hk:=putObj_keep (G:=G) h h1 h2
 have hne:∀(c:Nat)us e,w.heap[c]?=some (Obj.cells us e (0,0))→(w.putObj b o2).heap[c]?=some (Obj.cells us e (0,0)):=by
  intro c us e hc
  rw[World.putObj_heap_other ?_,hc]
  rintro rfl
  rw[h]at hc
  cases hc
  exact h1
 refine⟨fun c hc=>hH.base c (by simpa using hc),hH.nb,hH.nt,hH.nl,fun k hk' hh=> ?_,hH.μinj,hH.μlim,fun t ht=> ?_,hH.τinj,hH.μτ,fun l hl=> ?_,hH.linj,hH.glob.turn (fun _ h=>h) (fun c us e m _ hc=>by
  rw[World.putObj_heap_other ?_,hc]
  rintro rfl
  rw[h]at hc
  cases hc
  exact h1)⟩
 ·obtain⟨us,e,a1,a2,a3⟩:=hH.box k hk' hh
  exact⟨us,e,hne _ _ _ a1,a2,fun i i1 i2=>(a3 i i1 i2).keep hk⟩
 ·obtain⟨a0,us,e,a1,a2⟩:=hH.tok t ht
  exact⟨a0,us,e,hne _ _ _ a1,a2⟩
 ·obtain⟨rec,a1,a2⟩:=hH.loop l hl
  refine⟨rec,?_,a2.keep hk⟩
  rw[World.putObj_heap_other ?_,a1]
  exact fun e=>hb l (by rw[hH.nl];exact hl) e.symm
theorem HRep.putLoop{H:Heap}(hH:HRep P G w H){l:Nat}{rec rec':Loop}{r:LRec}(hl:l<G.nl)(h:w.heap[G.ln l]?=some (.loop rec))(hr:LRep P G w r rec'):
 HRep P G (w.putObj (G.ln l) (.loop rec')) {H with loops:=H.loops.set l r}:=by
 have hk:=putObj_keep (G:=G) (o2:=.loop rec') h trivial trivial
 have hlt:=(Array.getElem?_eq_some_iff.1 h).1
 have hne:∀(c:Nat)us e,w.heap[c]?=some (Obj.cells us e (0,0))→(w.putObj (G.ln l) (.loop rec')).heap[c]?=some (Obj.cells us e (0,0)):=by
  intro c us e hc
  rw[World.putObj_heap_other ?_,hc]
  intro e'
  rw[e',h]at hc
  cases hc
 refine⟨fun c hc=>hH.base c (by simpa using hc),hH.nb,hH.nt,by simpa using hH.nl,fun k hk' hh=> ?_,hH.μinj,hH.μlim,fun t ht=> ?_,hH.τinj,hH.μτ,fun l' hl'=> ?_,hH.linj,hH.glob.turn (fun _ h=>h) (fun c us e m _ hc=>by
  rw[World.putObj_heap_other ?_,hc]
  intro e'
  rw[e',h]at hc
  cases hc)⟩
 ·obtain⟨us,e,a1,a2,a3⟩:=hH.box k hk' hh
  exact⟨us,e,hne _ _ _ a1,a2,fun i i1 i2=>(a3 i i1 i2).keep hk⟩
 ·obtain⟨a0,us,e,a1,a2⟩:=hH.tok t ht
  exact⟨a0,us,e,hne _ _ _ a1,a2⟩
 ·have hl'':l'<H.loops.length:=by simpa using hl'
  by_cases he:l=l'
  ·subst he
   exact⟨rec',World.putObj_heap_same hlt,by simpa using hr.keep hk⟩
  ·obtain⟨rec0,a1,a2⟩:=hH.loop l' hl''
   refine⟨rec0,?_,?_⟩
   ·rw[World.putObj_heap_other ?_,a1]
    exact fun e=>he (hH.linj _ _ hl (by rw[hH.nl];exact hl'') e.symm)
   ·simpa[List.getElem_set_ne he]using a2.keep hk
structure Marks(w0 w:World)(df:List Deferred):Prop where
 mark:∀d∈df,∃b,d.target=.collected b∧w0.heap.size≤b∧w.heap[b]?=some (.deferred (some []))
 apart:df.Pairwise fun d e=>∀b,d.target=.collected b→e.target≠.collected b
theorem Marks.nil(w0 w:World):Marks w0 w []:=⟨fun d h=>(by cases h),List.Pairwise.nil⟩
theorem Marks.step{w0:World}{df:List Deferred}{H:Heap}(h:Marks w0 w df)(hH:HRep P G w H)(hst:Step G w G' w'):Marks w0 w' df:=by
 refine⟨fun d hd=> ?_,h.apart⟩
 obtain⟨b,h1,h2,h3⟩:=h.mark d hd
 refine⟨b,h1,h2,?_⟩
 rw[(hst.frame b (Array.getElem?_eq_some_iff.1 h3).1 (fun k hk e=> ?_) (fun t ht e=> ?_) (fun k hk e=> ?_)).1,h3]
 ·obtain⟨us,e',hb,_⟩:=hH.box k (by rw[←hH.nb];exact hk.1) hk.2
  rw[←e,h3]at hb;cases hb
 ·obtain⟨_,us,e',hb,_⟩:=hH.tok t (by rw[←hH.nt];exact ht)
  rw[←e,h3]at hb;cases hb
 ·obtain⟨rec,hb,_⟩:=hH.loop k (by rw[←hH.nl];exact hk)
  rw[←e,h3]at hb;cases hb
theorem Marks.put{w0:World}{df:List Deferred}(h:Marks w0 w df){b:Nat}{o1 o2:Obj}(hb:w.heap[b]?=some o1)(hne:∀x,o1≠.deferred x):Marks w0 (w.putObj b o2) df:=by
 refine⟨fun d hd=> ?_,h.apart⟩
 obtain⟨c,h1,h2,h3⟩:=h.mark d hd
 refine⟨c,h1,h2,?_⟩
 rw[World.putObj_heap_other ?_,h3]
 rintro rfl
 rw[h3]at hb
 cases hb
 exact hne _ rfl
theorem unwind_marks{G0:Ghost}{w0:World}{H:Heap}{cs:List Frame}:∀(df:List Deferred){w:World}{fr:Frame},Step G0 w0 G w→HRep P G w H→Marks w0 w df→fr.mode≠.run→fr.defers=df→
 ∃w',Steps P (lone fr cs w) (lone {fr with defers:=[]} cs w')∧Step G0 w0 G w'∧HRep P G w' H∧Keep G w G w'
 |[],w,fr,hst,hH,hm,hr,hd=>by
  refine⟨w,?_,hst,hH,(Step.refl G w).keep⟩
  have:{fr with defers:=[]}=fr:=by cases fr;simp_all
  rw[this]
  exact .refl _ _
 |d::ds,w,fr,hst,hH,hm,hr,hd=>by
  obtain⟨b,h1,h2,h3⟩:=hm.mark d (by simp)
  have hk:=putObj_keep (G:=G) (o2:=.deferred none) h3 trivial trivial
  have hst':Step G0 w0 G (w.putObj b (.deferred none)):=hst.putObj h3 trivial trivial (.inl h2)
  have hH':HRep P G (w.putObj b (.deferred none)) H:=hH.putObj h3 trivial trivial fun k hk e=>by
   obtain⟨rec,hb,_⟩:=hH.loop k (by rw[←hH.nl];exact hk)
   rw[←e,h3]at hb;cases hb
  have ha:=List.pairwise_cons.1 hm.apart
  have hm':Marks w0 (w.putObj b (.deferred none)) ds:=by
   refine⟨fun e he=> ?_,ha.2⟩
   obtain⟨c,j1,j2,j3⟩:=hm.mark e (List.mem_cons_of_mem _ he)
   refine⟨c,j1,j2,?_⟩
   rw[World.putObj_heap_other ?_,j3]
   rintro rfl
   exact ha.1 e he c h1 j1
  have h0:=step_collected (P:=P) (cs:=cs) (w:=w) hr hd h1 (run_takeDeferred h3)
  obtain⟨w',s1,s2,s3,s4⟩:=unwind_marks ds (fr:={fr with defers:=[]++ds}) hst' hH' hm' hr rfl
  refine⟨w',.head h0 s1,s2,s3,?_⟩
  exact⟨fun c=>Nat.le_refl _,fun c off ho=>(s4.cell c off ho).trans (hk.cell c off ho),Nat.le_refl _,fun _ h=>h,fun _ _=>rfl,Nat.le_refl _,fun _ _=>Nat.le_refl _,fun _ _ _=>⟨rfl,rfl⟩,fun _ _=>rfl,Nat.le_refl _,fun _ _=>rfl,fun _ _=>rfl⟩
def resOne(tmps:Array Value):ResultVar→Sem Value
 |.tmp t=>pure (tmps.getD t undef)
 |.cell a t=>do loadVar t (←asAddr (tmps.getD a undef))
theorem results_eq(fn:Func)(tmps:Array Value):results fn tmps=(do let vs←fn.results.mapM (resOne tmps);pure (if h:vs.size=1 then vs[0]else .tuple vs)):=rfl
theorem loadA_ptr{u:Value}{x z:AV}{g:Bool}{n:Nat}{H:Heap}(hx:Rep G w u x)(h:loadA g n H x=some z):∃a,u=.pointer (some a):=by
 cases hx with
 |ptr k off hk=>exact⟨_,rfl⟩
 |ref a=>exact⟨_,rfl⟩
 |_=>simp[loadA]at h
theorem resAll_run{nt:Nat}{tmps:Array Value}{T:Env}{H:Heap}(hT:TRep G w nt tmps T)(hH:HRep P G w H):∀{rs:List ResultVar}{az:List ARV}{vs:List AV},cRes P rs=some az→resAll T H az=some vs→
 ∃us:List Value,(rs.mapM (resOne tmps)).run P w=.ok us w∧us.length=vs.length∧∀i(h1:i<us.length)(h2:i<vs.length),Rep G w us[i] vs[i]
 |[],az,vs,hc,h=>by
  simp only[cRes,Option.some.injEq]at hc
  subst hc
  simp only[resAll,Option.some.injEq]at h
  subst h
  exact⟨[],rfl,rfl,fun i h1=>absurd h1 (by simp)⟩
 |.tmp t::rs,az,vs,hc,h=>by
  simp only[cRes,Option.map_eq_some_iff]at hc
  obtain⟨az',hc',rfl⟩:=hc
  simp only[resAll,resA]at h
  split at h<;>simp only[Option.some.injEq,reduceCtorEq]at h
  rename_i v vs' h1 h2
  simp only[Option.some.injEq]at h1
  subst h;subst h1
  obtain⟨us,e1,e2,e3⟩:=resAll_run hT hH hc' h2
  refine⟨tmps.getD t undef::us,?_,by simp[e2],fun i h1 h2=> ?_⟩
  ·simp only[List.mapM_cons,resOne,Sem.run_bind,Sem.run_pure,Result.andThen_ok,e1]
  ·cases i with
   |zero=>exact hT.get t
   |succ i=>simpa using e3 i (by simpa using h1) (by simpa using h2)
 |.cell t ty::rs,az,vs,hc,h=>by
  simp only[cRes]at hc
  split at hc<;>simp only[Option.some.injEq,reduceCtorEq]at hc
  rename_i g n az' g1 g2 hc'
  subst hc
  simp only[resAll,resA]at h
  split at h<;>simp only[Option.some.injEq,reduceCtorEq]at h
  rename_i v vs' h1 h2
  subst h
  obtain⟨us,e1,e2,e3⟩:=resAll_run hT hH hc' h2
  obtain⟨u,f1,f2⟩:=run_loadA hH (hT.get t) h1 g1 g2
  obtain⟨ad,had⟩:=loadA_ptr (hT.get t) h1
  rw[had]at f1
  refine⟨u::us,?_,by simp[e2],fun i h1 h2=> ?_⟩
  ·have f1':(resOne tmps (.cell t ty)).run P w=.ok u w:=by
    simp only[resOne]
    rw[had]
    exact f1
   simp only[List.mapM_cons,Sem.run_bind,Sem.run_pure,Result.andThen_ok,e1,f1']
  ·cases i with
   |zero=>exact f2
   |succ i=>simpa using e3 i (by simpa using h1) (by simpa using h2)
theorem ret_run{fn:Func}{nt:Nat}{tmps:Array Value}{T:Env}{H H':Heap}{A:AFunc}{r:ARes}(hT:TRep G w nt tmps T)(hH:HRep P G w H)(hc:cRes P fn.results.toList=some A.results)(h:retA A T H=some (r,H')):
 H'=H∧∃v u,r=.ret v∧(results fn tmps).run P w=.ok u w∧Rep G w u v:=by
 unfold retA at h
 have key:∀vs,resAll T H A.results=some vs→∃us:Array Value,(fn.results.mapM (resOne tmps)).run P w=.ok us w∧
  us.size=vs.length∧∀i(h1:i<us.size)(h2:i<vs.length),Rep G w us[i] vs[i]:=by
  intro vs hvs
  obtain⟨us,e1,e2,e3⟩:=resAll_run hT hH hc hvs
  refine⟨us.toArray,?_,by simpa using e2,fun i h1 h2=>by simpa using e3 i (by simpa using h1) h2⟩
  rw[Array.mapM_eq_mapM_toList]
  simp[e1]
 rw[results_eq]
 split at h
 ·rename_i v hv
  simp only[Option.some.injEq,Prod.mk.injEq]at h
  obtain⟨rfl,rfl⟩:=h
  obtain⟨us,e1,e2,e3⟩:=key _ hv
  refine⟨rfl,v,us[0]'(by simp[e2]),rfl,?_,by simpa using e3 0 (by simp[e2]) (by simp)⟩
  simp only[Sem.run_bind,e1,Result.andThen_ok]
  rw[dif_pos (show us.size=1 by simpa using e2)]
  rfl
 ·rename_i vs hne hvs
  simp only[Option.some.injEq,Prod.mk.injEq]at h
  obtain⟨rfl,rfl⟩:=h
  obtain⟨us,e1,e2,e3⟩:=key _ hvs
  refine⟨rfl,.tuple vs,.tuple us,rfl,?_,.tuple us vs e2 e3⟩
  simp only[Sem.run_bind,e1,Result.andThen_ok]
  rw[dif_neg (show us.size≠1 from fun h1=> ?_)]
  ·rfl
  ·rw[e2]at h1
   obtain⟨x,rfl⟩:=List.length_eq_one_iff.1 h1
   exact hne _ rfl
 ·cases h
end Go.Aa
set_option linter.unusedVariables false
set_option linter.unusedSimpArgs false
namespace Go.Aa
open Go.RowKit
variable{P:Program}{G G':Ghost}{w w':World}
variable{mu:Bool}
inductive KRep(P:Program)(mu:Bool)(nt:Nat)(ρ:Option Nat):List AIt→List Item→Prop
 |nil:KRep P mu nt ρ [] []
 |code{c:Code}{ac:ACode}{k:List AIt}{todo:List Item}(h:cCode P mu nt c=some ac)(hk:KRep P mu nt ρ k todo):KRep P mu nt ρ (.c ac::k) (.code c::todo)
 |blk{id:Nat}{k:List AIt}{todo:List Item}(hk:KRep P mu nt ρ k todo):KRep P mu nt ρ (.blk id::k) (.inBlock id::todo)
 |lp{c:Code}{ac:ACode}{k:List AIt}{todo:List Item}(h:cCode P mu nt c=some ac)(hk:KRep P mu nt ρ k todo):KRep P mu nt ρ (.lp ac::k) (.inLoop c::todo)
 |beg{l:Nat}{k:List AIt}{todo:List Item}(h:ρ=some l)(hk:KRep P mu nt ρ k todo):KRep P mu nt ρ (.beg l::k) (.beginRound::todo)
theorem KRep.exit{nt:Nat}{ρ:Option Nat}{id:Nat}{k k':List AIt}{todo:List Item}(h:KRep P mu nt ρ k todo)(he:exitA id k=some k'):∃todo',exitTo id todo=some todo'∧KRep P mu nt ρ k' todo':=by
 induction h with
 |nil=>simp[exitA]at he
 |code h hk ih=>obtain⟨t,h1,h2⟩:=ih (by simpa[exitA]using he);exact⟨t,by simpa[exitTo]using h1,h2⟩
 | @blk i k todo hk ih=>
   simp only[exitA]at he
   split at he
   ·rename_i hi
    simp only[Option.some.injEq]at he
    subst he
    exact⟨_,by simp[exitTo,hi],hk⟩
   ·rename_i hi
    obtain⟨t,h1,h2⟩:=ih he
    exact⟨t,by simpa[exitTo,hi]using h1,h2⟩
 |lp h hk ih=>obtain⟨t,h1,h2⟩:=ih (by simpa[exitA]using he);exact⟨t,by simpa[exitTo]using h1,h2⟩
 |beg h hk ih=>obtain⟨t,h1,h2⟩:=ih (by simpa[exitA]using he);exact⟨t,by simpa[exitTo]using h1,h2⟩
def End(P:Program)(G0:Ghost)(w0:World)(b:Frame)(cs:List Frame)(ρ:Option Nat)(m:Machine)(r:ARes)(H':Heap):Prop:=
 match ρ with
 |none=>∃e w' fr G',Step G0 w0 G' w'∧HRep P G' w' H'∧EndOk G' w' e r∧Steps P m (lone fr cs w')∧fr.fn=b.fn∧fr.leaving P w' e
 |some _=>match r with
  |.pan _=>∃e w' fr G',Step G0 w0 G' w'∧HRep P G' w' H'∧EndOk G' w' e r∧Steps P m (lone fr cs w')∧fr.fn=b.fn∧fr.leaving P w' e
  |.ret _=>∃a' w' G',Step G0 w0 G' w'∧HRep P G' w' H'∧Steps P m (lone (b.atR a' []) cs w')
theorem End.of_steps{G0:Ghost}{w0:World}{b:Frame}{cs:List Frame}{ρ:Option Nat}{m m1:Machine}{r:ARes}{H':Heap}(hs:Steps P m m1)(h:End P G0 w0 b cs ρ m1 r H'):End P G0 w0 b cs ρ m r H':=by
 cases ρ with
 |none=>
  obtain⟨e,w',fr,G',h1,h2,h3,h4,h5⟩:=h
  exact⟨e,w',fr,G',h1,h2,h3,Steps.trans hs h4,h5⟩
 |some l=>
  cases r with
  |pan v=>
   obtain⟨e,w',fr,G',h1,h2,h3,h4,h5⟩:=h
   exact⟨e,w',fr,G',h1,h2,h3,Steps.trans hs h4,h5⟩
  |ret v=>
   obtain⟨a',w',G',h1,h2,h3⟩:=h
   exact⟨a',w',G',h1,h2,Steps.trans hs h3⟩
theorem TRep.keep{n:Nat}{tmps:Array Value}{T:Env}(h:TRep G w n tmps T)(hk:Keep G w G' w'):TRep G' w' n tmps T:=⟨h.size,fun i=>(h.get i).keep hk⟩
theorem fn_return{G0:Ghost}{w0:World}{b fr:Frame}{cs:List Frame}{fn:Func}{A:AFunc}{nt:Nat}{a:Act}{T:Env}{H H':Heap}{r:ARes}(hf:P.funcs[b.fn]?=some fn)(hres:cRes P fn.results.toList=some A.results)
 (hT:TRep G w nt a.tmps T)(hH:HRep P G w H)(hst:Step G0 w0 G w)(hm:Marks w0 w a.defers)(h1:fr.mode=.returning)(h2:fr.tmps=a.tmps)(h3:fr.defers=a.defers)(h4:fr.kind=.normal)(h5:fr.fn=b.fn)
 (h:retA A T H=some (r,H')):End P G0 w0 b cs none (lone fr cs w) r H':=by
 obtain⟨w',s1,s2,s3,s4⟩:=unwind_marks (cs:=cs) a.defers hst hH hm (by rw[h1];simp) h3
 obtain⟨rfl,v,u,rfl,r1,r2⟩:=ret_run (hT.keep s4) s3 hres h
 exact⟨.returned u,w',_,G,s2,s3,⟨u,rfl,r2⟩,s1,h5,h1,rfl,h4,fn,by rw[h5];exact hf,by rw[h2];exact r1⟩
theorem fn_panic{ρ:Option Nat}{G0:Ghost}{w0:World}{b fr:Frame}{cs:List Frame}{fn:Func}{df:List Deferred}{H:Heap}{v:AV}{u:Value}(hf:P.funcs[b.fn]?=some fn)(hH:HRep P G w H)(hst:Step G0 w0 G w)(hm:Marks w0 w df)
 (hr:Rep G w u v)(h1:fr.mode=.panicking [{v:=u,recovered:=false}])(h3:fr.defers=df)(h5:fr.fn=b.fn):End P G0 w0 b cs ρ (lone fr cs w) (.pan v) H:=by
 obtain⟨w',s1,s2,s3,s4⟩:=unwind_marks (cs:=cs) df hst hH hm (by rw[h1];simp) h3
 cases ρ<;>exact⟨.panicked [{v:=u,recovered:=false}],w',_,G,s2,s3,⟨u,rfl,hr.keep s4⟩,s1,h5,h1,rfl,fn,by rw[h5];exact hf⟩
theorem retA_ret{A:AFunc}{T:Env}{H H':Heap}{r:ARes}(h:retA A T H=some (r,H')):H'=H∧∃v,r=.ret v:=by
 unfold retA at h
 split at h<;>simp only[Option.some.injEq,Prod.mk.injEq,reduceCtorEq]at h<;>exact⟨h.2.symm,_,h.1.symm⟩
theorem Step.addLoop{G2:Ghost}{w2:World}{s:Nat}(h:Step G w G2 w2)(hs:w.heap.size≤s):Step G w {G2 with nl:=G2.nl+1,ln:=fun k=>if k=G2.nl then s else G2.ln k} w2:=by
 have h0:=h.nl
 refine⟨h.os,h.tape,h.output,h.size,h.lim,h.cell,h.nb,h.hole,h.μ,h.μnew,h.mc,h.nt,h.ext,h.τ,h.tes,h.τnew,Nat.le_succ_of_le h.nl,fun k hk=> ?_,fun k k1 k2=> ?_,h.frame⟩
 ·simp only
  rw[if_neg (by omega)]
  exact h.ln k hk
 ·simp only
  split
  ·exact hs
  ·exact h.lnew k k1 (by simp only at k2;omega)
theorem HRep.addLoop{H:Heap}{s:Nat}{r:LRec}{rec:Loop}(hH:HRep P G w H)(h:w.heap[s]?=some (.loop rec))(hne:∀l,l<G.nl→G.ln l≠s)(hr:LRep P {G with nl:=G.nl+1,ln:=fun k=>if k=G.nl then s else G.ln k} w r rec):
 HRep P {G with nl:=G.nl+1,ln:=fun k=>if k=G.nl then s else G.ln k} w {H with loops:=H.loops++[r]}:=by
 have hk:Keep G w {G with nl:=G.nl+1,ln:=fun k=>if k=G.nl then s else G.ln k} w:=
  ⟨fun _=>Nat.le_refl _,fun _ _ _=>rfl,Nat.le_refl _,fun _ h=>h,fun _ _=>rfl,Nat.le_refl _,fun _ _=>Nat.le_refl _,fun _ _ _=>⟨rfl,rfl⟩,fun _ _=>rfl,Nat.le_succ _,fun k hk=>if_neg (by omega),fun _ _=>rfl⟩
 have el:=hH.nl
 refine⟨hH.base,hH.nb,hH.nt,by simp[hH.nl],fun k hk' hh=> ?_,hH.μinj,hH.μlim,hH.tok,hH.τinj,hH.μτ,fun l hl=> ?_,fun i j hi hj e=> ?_,fun sp hs g hg=>by
  obtain⟨⟨g1,g2,g3⟩,cs,e,m,g4,g5⟩:=hH.glob sp hs g hg
  refine⟨⟨g1,g2,fun l hl he=> ?_⟩,cs,e,m,g4,g5⟩
  simp only at he
  split at he
  ·rw[he,h]at g4;cases g4
  ·exact g3 l (by simp only at hl;omega) he⟩
 ·obtain⟨us,e,a1,a2,a3⟩:=hH.box k hk' hh
  exact⟨us,e,a1,a2,fun i i1 i2=>(a3 i i1 i2).keep hk⟩
 ·by_cases hlt:l<H.loops.length
  ·obtain⟨rec0,a1,a2⟩:=hH.loop l hlt
   refine⟨rec0,?_,?_⟩
   ·simp only;rw[if_neg (by omega)];exact a1
   ·simp only[List.getElem_append_left hlt];exact a2.keep hk
  ·have:l=G.nl:=by simp at hl;omega
   subst this
   refine⟨rec,by simp only[if_true];exact h,?_⟩
   have:(H.loops++[r])[G.nl]'hl=r:=by simp[el]
   simp only[this]
   exact hr
 ·simp only at hi hj e
  split at e
  ·split at e
   ·omega
   ·exact absurd e.symm (hne j (by omega))
  ·split at e
   ·exact absurd e (hne i (by omega))
   ·exact hH.linj i j (by omega) (by omega) e
theorem stepR_rangeFunc_value{b:Frame}{a:Act}{k:List Item}{cs:List Frame}{g:Operand}{ps:Array Tmp}{assign body:Code}{l:Nat}{mark:List Deferred}{w₁ w₁' w₂:World}{d:Deferred}{v:Value}
 (he:(Instr.enterLoop b.fn a.tmps ps assign body b.roundOf).run P w=.ok (l,mark) w₁)
 (hres:(resolve a.eval (rangeCall g l) 0).run P w₁=.ok d w₁')(hinv:(invoke d.target d.args).run P w₁'=.ok (.value v) w₂):
 step P (lone (b.atR a (.code (.rangeFunc g ps assign body)::k)) cs w)=.next (lone ((b.atR {a with defers:=mark++a.defers} (.inRangeFunc l::k)).finish v) cs w₂):=
 step_lone_go (by
  have hev:=Frame.eval_atR b {a with defers:=mark++a.defers} (.inRangeFunc l::k)
  simp only[Frame.atR]at hev
  have hres':Sem.run P (resolve ({tmps:=a.tmps,defers:=mark++a.defers}:Act).eval {callee:=.value g,args:= #[.const (.func (.yield l) #[] #[])],argTypes:= #[]} 0) w₁=.ok d w₁':=hres
  simp[stepG,stepG.exec,Frame.atR,Sem.runT_eq,he,GStep.bare_after,stepG.apply,hev,Sem.run_bind,hres',hinv,Result.andThen])
theorem range_sound {call : CallF} (hc : CallSound P call) {nt : Nat} {b : Frame} {a : Act} {T : Env} {H H4 : Heap} {A : AFunc} {g : Operand} {go : Opd} {ps : Array Tmp} {assign body : Code} {aa ab : ACode} (hro : b.roundOf = none)
    (hf : ∃ fn, P.funcs[b.fn]? = some fn) (hT : TRep G w nt a.tmps T) (hH : HRep P G w H) (hg : cOpd g = some go) (ha : cCode P mu nt assign = some aa) (hb : cCode P mu nt body = some ab) (hps : ps.toList.all (fun d => decide (d < nt)) = true)
    {v4 : AV} (h : rangeA call (ev T go) A T ps.toList aa ab H = some (.val v4 H4)) (cs : List Frame) (k : List Item) :
    ∃ w' G' m, Steps P (lone (b.atR a (.code (.rangeFunc g ps assign body) :: k)) cs w) (lone (b.atR { a with defers := { target := .collected m, args := #[] } :: a.defers } k) cs w') ∧ Step G w G' w' ∧ HRep P G' w' H4 ∧ w.heap.size ≤ m ∧
      w'.heap[m]? = some (.deferred (some [])) := by
  obtain ⟨f, caps, hev, hh⟩ := rangeA_inv h
  rcases hh with ⟨v, H3, _, hcall, h, he4⟩ | ⟨v, H3, _, hcall, _, _, he4⟩
  · cases he4
    have rg := cOpd_rep (a := a) hT hg
    rw [hev] at rg
    generalize hu : a.eval g = u at rg
    cases rg with
    | func _ us _ hn hr =>
    have he := run_enterLoop_outer (P := P) (w := w) b.fn a.tmps ps assign body
    rw [← hro] at he
    -- the world with the two blocks
    let rec0 : Loop := { state := .ready, pending := none, fn := b.fn, tmps := a.tmps, params := ps, assign := assign, body := body, defers := w.heap.size }
    let w1 : World := (w.alloc (.deferred (some []))).alloc (.loop rec0)
    let Ga : Ghost := (G.set w.heap.size 0).set (w.alloc (.deferred (some []))).heap.size 0
    have g1 : Grow G w (G.set w.heap.size 0) (w.alloc (.deferred (some []))) := .alloc hH.base _ _
    have g2 : Grow (G.set w.heap.size 0) (w.alloc (.deferred (some []))) Ga w1 := .alloc g1.base _ _
    have gg : Grow G w Ga w1 := g1.trans g2
    have hHa : HRep P Ga w1 H := hH.grow gg
    have hsta := gg.step hH.base
    let s : Nat := w.heap.size + 1
    have enl : Ga.nl = G.nl := rfl
    let Gb : Ghost := { Ga with nl := Ga.nl + 1, ln := fun k => if k = Ga.nl then s else Ga.ln k }
    have hstb : Step G w Gb w1 := hsta.addLoop (by simp [s])
    have hloop : w1.heap[s]? = some (.loop rec0) := by
      have := World.alloc_heap_new (w.alloc (.deferred (some []))) (.loop rec0)
      simpa [w1, s] using this
    have hmark : w1.heap[w.heap.size]? = some (.deferred (some [])) := by
      have h1 := World.alloc_heap_new w (.deferred (some []))
      have h2 := Below.heap_alloc (w.alloc (.deferred (some []))) (.loop rec0) w.heap.size (by simp)
      show w1.heap[w.heap.size]? = _
      rw [h2]; exact h1
    let r : LRec := ⟨A, T, ps.toList, aa, ab, false, H.boxes.length, H.toks.length, H.loops.length⟩
    have hlr : LRep P Gb w1 r rec0 := by
      refine ⟨fun _ => rfl, rfl, rfl, hf, ⟨?_, ?_, ?_, fun i => ?_⟩, mu, nt, hT.step hstb, hps, ha, hb⟩
      · show H.boxes.length ≤ G.nb
        rw [hH.nb]; exact Nat.le_refl _
      · show H.toks.length ≤ G.nt
        rw [hH.nt]; exact Nat.le_refl _
      · show H.loops.length ≤ G.nl + 1
        rw [hH.nl]; exact Nat.le_succ _
      · have := (hT.get i).fits
        rw [hH.nb, hH.nt, hH.nl] at this
        exact this
    have hHb : HRep P Gb w1 { H with loops := H.loops ++ [r] } := hHa.addLoop hloop (fun l hl e => by
      have := hHa.lnlt hl
      have h2 := hH.lnlt (l := l) hl
      have e2 : Ga.ln l = G.ln l := rfl
      rw [e2] at e
      simp only [s] at e
      omega) hlr
    -- the call
    have hargs : Args Gb w1 (#[.func (.yield s) #[] #[]] ++ us) ([AV.yield H.loops.length] ++ caps) := by
      refine Args.append (us := #[.func (.yield s) #[] #[]]) (az := [AV.yield H.loops.length]) ⟨rfl, fun i h1 h2 => ?_⟩ (Args.step ⟨hn, hr⟩ hstb)
      have : i = 0 := by simp at h1; omega
      subst this
      have e2 : Gb.ln H.loops.length = s := by
        show (if H.loops.length = G.nl then s else G.ln H.loops.length) = s
        rw [if_pos hH.nl.symm]
      have := Rep.yield (G := Gb) (w := w1) H.loops.length (by show H.loops.length < G.nl + 1; rw [hH.nl]; exact Nat.lt_succ_self _)
      rw [e2] at this
      exact this
    have hnd : (([AV.yield H.loops.length] : List AV).all isData && caps.all data0) = false := by simp [isData, data2, data1, data0]
    unfold callV at hcall
    simp only [hnd, Bool.false_eq_true, if_false, callE] at hcall
    split at hcall <;> simp only [Option.some.injEq, reduceCtorEq, Out.val.injEq] at hcall
    rename_i v0 H2 hrun
    obtain ⟨rfl, rfl⟩ := hcall
    have hco := hc.fn f _ _ _ _ hrun Gb w1 _ hHb hargs
    have hres : (resolve a.eval (rangeCall g s) 0).run P w1 = .ok { target := .fn (.func f) us, args := #[.func (.yield s) #[] #[]] } w1 := by
      have e1 : (rangeCall g s).args.map a.eval = #[Value.func (.yield s) #[] #[]] := by simp [rangeCall, Act.eval]
      unfold resolve
      simp only [e1]
      show (Deferred.ofValue (a.eval g) #[Value.func (.yield s) #[] #[]]).run P w1 = _
      rw [hu]
      rfl
    have hinv : (invoke (.fn (.func f) us) #[.func (.yield s) #[] #[]]) = callFunc f (#[.func (.yield s) #[] #[]] ++ us) := rfl
    -- the end of the loop
    have fin : ∀ (u0 : Value) (w2 : World), PostOk P Gb w1 (.ret v0) H2 (.returned u0) w2 →
        ∃ w' G', step P (lone (b.atR { a with defers := { target := .collected w.heap.size, args := #[] } :: a.defers } (.endRangeFunc s :: k)) cs w2) = .next (lone (b.atR { a with defers := { target := .collected w.heap.size, args := #[] } :: a.defers } k) cs w') ∧
          Step G w G' w' ∧ HRep P G' w' H4 ∧ w'.heap[w.heap.size]? = some (.deferred (some [])) := by
      intro u0 w2 hpost
      obtain ⟨G2, k1, k2, u', e1, e2⟩ := hpost
      obtain ⟨G3, t1, t2, _⟩ := trunc_sound k1 k2 e2.shut
      have enb : Gb.nb = H.boxes.length := hH.nb
      have ent : Gb.nt = H.toks.length := hH.nt
      rw [enb, ent] at t2
      generalize trunc H.boxes.length H.toks.length (shutA v0) H2 = H3 at h t2
      unfold dropL at h
      split at h
      · rename_i r3 hr3
        split at h <;> simp only [Option.some.injEq, reduceCtorEq] at h
        rename_i hcond
        obtain ⟨hbusy, hlo, hbo⟩ := hcond
        subst h
        obtain ⟨hlt3, hr3'⟩ := List.getElem?_eq_some_iff.1 hr3
        obtain ⟨rec3, j1, j2⟩ := t2.loop _ hlt3
        rw [hr3'] at j2
        have hln : G3.ln H.loops.length = s := by
          rw [t1.ln _ (show H.loops.length < G.nl + 1 by rw [hH.nl]; exact Nat.lt_succ_self _)]
          show (if H.loops.length = G.nl then s else G.ln H.loops.length) = s
          rw [if_pos hH.nl.symm]
        rw [hln] at j1
        have hend : (Instr.endLoop s).run P w2 = .ok none (w2.putObj s (.loop { rec3 with state := .exhausted, pending := none })) := by
          have := run_endLoop (P := P) j1 (by rw [j2.ready hbusy]; simp)
          rw [j2.pending] at this
          exact this
        have hst3 : Step G w G3 w2 := hstb.trans t1
        have hl3 : H.loops.length ≤ G3.nl := by rw [t2.nl]; exact Nat.le_of_lt hlt3
        have hcut : HRep P (G3.cut G3.nb G3.nt G.nl) w2 { H3 with loops := H3.loops.take H.loops.length } := by
          have := t2.cut (nb := G3.nb) (nt := G3.nt) (nl := G.nl) (Nat.le_refl _) (Nat.le_refl _) (by rw [hH.nl]; exact hl3) (fun cs' hcs' x hx v' hv' => by
            have := List.all_eq_true.1 (List.all_eq_true.1 hbo _ (List.mem_of_mem_take hcs')) x hx
            rw [← t2.nb, ← t2.nt] at this
            exact in2_fits hv' this) (fun r' hr' => by
            have hr2 : r' ∈ H3.loops.take H.loops.length := by rw [← hH.nl]; exact hr'
            have h3 := List.all_eq_true.1 hlo _ hr2
            obtain ⟨l', hl', rfl⟩ := List.getElem_of_mem (List.mem_of_mem_take hr2)
            obtain ⟨rec', _, a2⟩ := t2.loop l' hl'
            exact ⟨a2.fits.1, a2.fits.2.1, by rw [hH.nl]; simpa using h3⟩)
          rw [t2.nb, t2.nt, take_len, take_len, hH.nl] at this
          rw [t2.nb, t2.nt, hH.nl]
          exact this
        have hstc : Step G w (G3.cut G3.nb G3.nt G.nl) w2 := hst3.cut hst3.nb (Nat.le_refl _) hst3.nt (Nat.le_refl _) (Nat.le_refl _) (by rw [hH.nl]; exact hl3)
        refine ⟨_, _, ?_, hstc.putObj (o2 := .loop { rec3 with state := .exhausted, pending := none }) j1 trivial trivial (.inl (by simp [s])), hcut.putObj j1 trivial trivial fun l hl e => ?_, ?_⟩
        · have := stepR_endRangeFunc (P := P) (b := b) (a := { a with defers := { target := .collected w.heap.size, args := #[] } :: a.defers }) (k := k) (cs := cs) hend
          simpa using this
        · have hl' : l < G.nl := hl
          have e' : G3.ln l = s := e.symm
          rw [← hln] at e'
          have := t2.linj l H.loops.length (by rw [hH.nl] at hl'; omega) (by rw [t2.nl]; exact hlt3) e'
          rw [hH.nl] at hl'
          omega
        · rw [World.putObj_heap_other (by simp [s])]
          have hm1 : Marks w w1 [{ target := .collected w.heap.size, args := #[] }] :=
            ⟨fun d hd => by simp only [List.mem_singleton] at hd; subst hd; exact ⟨_, rfl, Nat.le_refl _, hmark⟩, by simp⟩
          obtain ⟨m', hm2, _, hm3⟩ := (hm1.step hHb t1).mark { target := .collected w.heap.size, args := #[] } (by simp)
          injection hm2 with hm2
          rw [hm2]; exact hm3
      · cases h
    rcases hco with ⟨w1', c1, c2, rfl⟩ | ⟨u0, w2, c1, c2⟩
    · obtain ⟨e, w2, fr, d1, d2, d3, d4⟩ := c2 (b.atR { a with defers := [{ target := .collected w.heap.size, args := #[] }] ++ a.defers } (.inRangeFunc s :: k) :: cs)
      have henter := stepR_rangeFunc (P := P) (b := b) (a := a) (k := k) (cs := cs) (w := w) he hres (by rw [hinv]; exact c1)
      cases e with
      | outgrown => exact absurd d1 postOk_outgrown
      | panicked ch => obtain ⟨_, _, _, u', h', _⟩ := d1; cases h'
      | returned u0 =>
        obtain ⟨w', G', f1, f2, f3, f4⟩ := fin u0 w2 d1
        refine ⟨w', G', w.heap.size, .head henter (Steps.trans d2 (.head (step_leave_returned d4) ?_)), f2, f3, Nat.le_refl _, f4⟩
        rw [finish_atR_inRangeFunc]
        exact .one f1
    · have henter := stepR_rangeFunc_value (P := P) (b := b) (a := a) (k := k) (cs := cs) (w := w) he hres (by rw [hinv]; exact c1)
      obtain ⟨w', G', f1, f2, f3, f4⟩ := fin u0 w2 c2
      refine ⟨w', G', w.heap.size, .head henter ?_, f2, f3, Nat.le_refl _, f4⟩
      rw [finish_atR_inRangeFunc]
      exact .one f1
  · cases he4
theorem range_panics {call : CallF} (hc : CallSound P call) {nt : Nat} {b : Frame} {a : Act} {T : Env} {H H4 : Heap} {A : AFunc} {g : Operand} {go : Opd} {ps : Array Tmp} {assign body : Code} {aa ab : ACode} (hro : b.roundOf = none)
    (hf : ∃ fn, P.funcs[b.fn]? = some fn) (hT : TRep G w nt a.tmps T) (hH : HRep P G w H) (hg : cOpd g = some go) (ha : cCode P mu nt assign = some aa) (hb : cCode P mu nt body = some ab) (hps : ps.toList.all (fun d => decide (d < nt)) = true)
    {v4 : AV} (h : rangeA call (ev T go) A T ps.toList aa ab H = some (.pan v4 H4)) (cs : List Frame) (k : List Item) :
    ∃ w' G' m u todo', Steps P (lone (b.atR a (.code (.rangeFunc g ps assign body) :: k)) cs w) (lone { b.atR { a with defers := { target := .collected m, args := #[] } :: a.defers } todo' with mode := .panicking [{ v := u, recovered := false }] } cs w') ∧ Step G w G' w' ∧ HRep P G' w' H4 ∧
      Rep G' w' u v4 ∧ w.heap.size ≤ m ∧ w'.heap[m]? = some (.deferred (some [])) := by
  obtain ⟨f, caps, hev, hh⟩ := rangeA_inv h
  rcases hh with ⟨v, H3, _, hcall, _, he4⟩ | ⟨v, H3, _, hcall, hdat, h, he4⟩
  · cases he4
  · cases he4
    have rg := cOpd_rep (a := a) hT hg
    rw [hev] at rg
    generalize hu : a.eval g = u at rg
    cases rg with
    | func _ us _ hn hr =>
    have he := run_enterLoop_outer (P := P) (w := w) b.fn a.tmps ps assign body
    rw [← hro] at he
    -- the world with the two blocks
    let rec0 : Loop := { state := .ready, pending := none, fn := b.fn, tmps := a.tmps, params := ps, assign := assign, body := body, defers := w.heap.size }
    let w1 : World := (w.alloc (.deferred (some []))).alloc (.loop rec0)
    let Ga : Ghost := (G.set w.heap.size 0).set (w.alloc (.deferred (some []))).heap.size 0
    have g1 : Grow G w (G.set w.heap.size 0) (w.alloc (.deferred (some []))) := .alloc hH.base _ _
    have g2 : Grow (G.set w.heap.size 0) (w.alloc (.deferred (some []))) Ga w1 := .alloc g1.base _ _
    have gg : Grow G w Ga w1 := g1.trans g2
    have hHa : HRep P Ga w1 H := hH.grow gg
    have hsta := gg.step hH.base
    let s : Nat := w.heap.size + 1
    have enl : Ga.nl = G.nl := rfl
    let Gb : Ghost := { Ga with nl := Ga.nl + 1, ln := fun k => if k = Ga.nl then s else Ga.ln k }
    have hstb : Step G w Gb w1 := hsta.addLoop (by simp [s])
    have hloop : w1.heap[s]? = some (.loop rec0) := by
      have := World.alloc_heap_new (w.alloc (.deferred (some []))) (.loop rec0)
      simpa [w1, s] using this
    have hmark : w1.heap[w.heap.size]? = some (.deferred (some [])) := by
      have h1 := World.alloc_heap_new w (.deferred (some []))
      have h2 := Below.heap_alloc (w.alloc (.deferred (some []))) (.loop rec0) w.heap.size (by simp)
      show w1.heap[w.heap.size]? = _
      rw [h2]; exact h1
    let r : LRec := ⟨A, T, ps.toList, aa, ab, false, H.boxes.length, H.toks.length, H.loops.length⟩
    have hlr : LRep P Gb w1 r rec0 := by
      refine ⟨fun _ => rfl, rfl, rfl, hf, ⟨?_, ?_, ?_, fun i => ?_⟩, mu, nt, hT.step hstb, hps, ha, hb⟩
      · show H.boxes.length ≤ G.nb
        rw [hH.nb]; exact Nat.le_refl _
      · show H.toks.length ≤ G.nt
        rw [hH.nt]; exact Nat.le_refl _
      · show H.loops.length ≤ G.nl + 1
        rw [hH.nl]; exact Nat.le_succ _
      · have := (hT.get i).fits
        rw [hH.nb, hH.nt, hH.nl] at this
        exact this
    have hHb : HRep P Gb w1 { H with loops := H.loops ++ [r] } := hHa.addLoop hloop (fun l hl e => by
      have := hHa.lnlt hl
      have h2 := hH.lnlt (l := l) hl
      have e2 : Ga.ln l = G.ln l := rfl
      rw [e2] at e
      simp only [s] at e
      omega) hlr
    -- the call
    have hargs : Args Gb w1 (#[.func (.yield s) #[] #[]] ++ us) ([AV.yield H.loops.length] ++ caps) := by
      refine Args.append (us := #[.func (.yield s) #[] #[]]) (az := [AV.yield H.loops.length]) ⟨rfl, fun i h1 h2 => ?_⟩ (Args.step ⟨hn, hr⟩ hstb)
      have : i = 0 := by simp at h1; omega
      subst this
      have e2 : Gb.ln H.loops.length = s := by
        show (if H.loops.length = G.nl then s else G.ln H.loops.length) = s
        rw [if_pos hH.nl.symm]
      have := Rep.yield (G := Gb) (w := w1) H.loops.length (by show H.loops.length < G.nl + 1; rw [hH.nl]; exact Nat.lt_succ_self _)
      rw [e2] at this
      exact this
    have hnd : (([AV.yield H.loops.length] : List AV).all isData && caps.all data0) = false := by simp [isData, data2, data1, data0]
    unfold callV at hcall
    simp only [hnd, Bool.false_eq_true, if_false, callE] at hcall
    split at hcall <;> simp only [Option.some.injEq, reduceCtorEq, Out.pan.injEq] at hcall
    rename_i v0 H2 hrun
    obtain ⟨rfl, rfl⟩ := hcall
    have hco := hc.fn f _ _ _ _ hrun Gb w1 _ hHb hargs
    have hres : (resolve a.eval (rangeCall g s) 0).run P w1 = .ok { target := .fn (.func f) us, args := #[.func (.yield s) #[] #[]] } w1 := by
      have e1 : (rangeCall g s).args.map a.eval = #[Value.func (.yield s) #[] #[]] := by simp [rangeCall, Act.eval]
      unfold resolve
      simp only [e1]
      show (Deferred.ofValue (a.eval g) #[Value.func (.yield s) #[] #[]]).run P w1 = _
      rw [hu]
      rfl
    have hinv : (invoke (.fn (.func f) us) #[.func (.yield s) #[] #[]]) = callFunc f (#[.func (.yield s) #[] #[]] ++ us) := rfl
    have fin : ∀ (e0 : Ending) (w2 : World), PostOk P Gb w1 (.pan v0) H2 e0 w2 → ∃ u G', e0 = .panicked [{ v := u, recovered := false }] ∧ Step G w G' w2 ∧ HRep P G' w2 H4 ∧ Rep G' w2 u v0 ∧ w2.heap[w.heap.size]? = some (.deferred (some [])) := by
      intro e0 w2 hpost
      obtain ⟨G2, k1, k2, u', e1, e2⟩ := hpost
      obtain ⟨G3, t1, t2, t3⟩ := trunc_sound k1 k2 e2
      have enb : Gb.nb = H.boxes.length := hH.nb
      have ent : Gb.nt = H.toks.length := hH.nt
      rw [enb, ent] at t2
      generalize trunc H.boxes.length H.toks.length v0 H2 = H3 at h t2
      unfold dropP at h
      split at h <;> simp only [Option.some.injEq, reduceCtorEq] at h
      rename_i hcond
      obtain ⟨hlt3, hlo, hbo⟩ := hcond
      subst h
      have hst3 : Step G w G3 w2 := hstb.trans t1
      have hl3 : H.loops.length ≤ G3.nl := by rw [t2.nl]; exact Nat.le_of_lt hlt3
      have hcut : HRep P (G3.cut G3.nb G3.nt G.nl) w2 { H3 with loops := H3.loops.take H.loops.length } := by
        have := t2.cut (nb := G3.nb) (nt := G3.nt) (nl := G.nl) (Nat.le_refl _) (Nat.le_refl _) (by rw [hH.nl]; exact hl3) (fun cs' hcs' x hx v' hv' => by
          have := List.all_eq_true.1 (List.all_eq_true.1 hbo _ (List.mem_of_mem_take hcs')) x hx
          rw [← t2.nb, ← t2.nt] at this
          exact in2_fits hv' this) (fun r' hr' => by
          have hr2 : r' ∈ H3.loops.take H.loops.length := by rw [← hH.nl]; exact hr'
          have h3 := List.all_eq_true.1 hlo _ hr2
          obtain ⟨l', hl', rfl⟩ := List.getElem_of_mem (List.mem_of_mem_take hr2)
          obtain ⟨rec', _, a2⟩ := t2.loop l' hl'
          exact ⟨a2.fits.1, a2.fits.2.1, by rw [hH.nl]; simpa using h3⟩)
        rw [t2.nb, t2.nt, take_len, take_len, hH.nl] at this
        rw [t2.nb, t2.nt, hH.nl]
        exact this
      have hstc : Step G w (G3.cut G3.nb G3.nt G.nl) w2 := hst3.cut hst3.nb (Nat.le_refl _) hst3.nt (Nat.le_refl _) (Nat.le_refl _) (by rw [hH.nl]; exact hl3)
      refine ⟨u', _, e1, hstc, hcut, t3.data (isData_data hdat t3) (fun _ => Nat.le_refl _), ?_⟩
      have hm1 : Marks w w1 [{ target := .collected w.heap.size, args := #[] }] :=
        ⟨fun d hd => by simp only [List.mem_singleton] at hd; subst hd; exact ⟨_, rfl, Nat.le_refl _, hmark⟩, by simp⟩
      obtain ⟨m', hm2, _, hm3⟩ := (hm1.step hHb t1).mark { target := .collected w.heap.size, args := #[] } (by simp)
      injection hm2 with hm2
      rw [hm2]; exact hm3
    rcases hco with ⟨w1', c1, c2, rfl⟩ | ⟨u0, w2, c1, c2⟩
    · obtain ⟨e, w2, fr, d1, d2, d3, d4⟩ := c2 (b.atR { a with defers := [{ target := .collected w.heap.size, args := #[] }] ++ a.defers } (.inRangeFunc s :: k) :: cs)
      have henter := stepR_rangeFunc (P := P) (b := b) (a := a) (k := k) (cs := cs) (w := w) he hres (by rw [hinv]; exact c1)
      obtain ⟨u', G', rfl, f1, f2, f3, f4⟩ := fin e w2 d1
      exact ⟨w2, G', w.heap.size, u', _, .head henter (Steps.trans d2 (.one (step_leave_panicked d4))), f1, f2, f3, Nat.le_refl _, f4⟩
    · obtain ⟨u', G', h', _⟩ := fin _ _ c2
      cases h'
end Go.Aa
set_option linter.unusedVariables false
set_option linter.unusedSimpArgs false
namespace Go.Aa
open Go.RowKit
variable{P:Program}{G G':Ghost}{w w':World}
variable{mu:Bool}
theorem run_sim{call:CallF}(hc:CallSound P call)(hmix:P.follows .mixedOrders=true){A:AFunc}{ρ:Option Nat}{nt:Nat}{G0:Ghost}{w0:World}{b:Frame}{fn:Func}(hfn:P.funcs[b.fn]?=some fn)
 (hres:ρ=none→cRes P fn.results.toList=some A.results)(hA:A.round=ρ.isSome)(hkind:b.kind=.normal){cs:List Frame}:
 ∀(n:Nat)(k:List AIt)(T:Env)(H:Heap)(r:ARes)(H':Heap),run call A n k T H=some (r,H')→∀(G:Ghost)(w:World)(a:Act)(todo:List Item),b.roundOf=ρ.map G.ln→(∀l,ρ=some l→l<G.nl)→
  KRep P mu nt ρ k todo→TRep G w nt a.tmps T→HRep P G w H→Step G0 w0 G w→Marks w0 w a.defers→End P G0 w0 b cs ρ (lone (b.atR a todo) cs w) r H':=by
 intro n
 induction n with
 |zero=>intro k T H r H' h;cases k<;>simp[run]at h
 |succ n ih=>
  intro k T H r H' h G w a todo hro hl hk hT hH hst hm
  have next:∀{G':Ghost}{w':World}{a':Act}{k':List AIt}{todo':List Item}{T':Env}{H1:Heap},run call A n k' T' H1=some (r,H')→Steps P (lone (b.atR a todo) cs w) (lone (b.atR a' todo') cs w')→Step G w G' w'→
   KRep P mu nt ρ k' todo'→TRep G' w' nt a'.tmps T'→HRep P G' w' H1→Marks w0 w' a'.defers→End P G0 w0 b cs ρ (lone (b.atR a todo) cs w) r H':=by
   intro G' w' a' k' todo' T' H1 h1 h2 h3 h4 h5 h6 h7
   refine(ih _ _ _ _ _ h1 G' w' a' todo' ?_ (fun l e=>Nat.lt_of_lt_of_le (hl l e) h3.nl) h4 h5 h6 (hst.trans h3) h7).of_steps h2
   rw[hro]
   cases ρ with
   |none=>rfl
   |some l=>simp[h3.ln l (hl l rfl)]
  cases hk with
  |nil=>
   cases ρ with
   |none=>
    have hs:step P (lone (b.atR a []) cs w)=.next (lone {b.atR a []with mode:=.returning} cs w):=stepR_end (by rw[hro];rfl)
    exact(fn_return (fr:={b.atR a []with mode:=.returning}) hfn (hres rfl) hT hH hst hm rfl rfl rfl hkind rfl h).of_steps (.one hs)
   |some l=>
    obtain⟨rfl,v,rfl⟩:=retA_ret h
    exact⟨a,w,G,hst,hH,.refl _ _⟩
  |blk hk=>exact next h (.one stepR_inBlock) (.refl _ _) hk hT hH hm
  |lp hc' hk=>exact next h (.one stepR_inLoop) (.refl _ _) (.code hc' (.lp hc' hk)) hT hH hm
  | @beg l k todo he hk=>
    simp only[run]at h
    split at h
    ·rename_i r0 hr0
     split at h
     ·cases h
     ·rename_i hbusy
      have hlt:=hl l he
      obtain⟨hll,hr0'⟩:=List.getElem?_eq_some_iff.1 hr0
      obtain⟨rec,j1,j2⟩:=hH.loop l hll
      rw[hr0']at j2
      have hready:=j2.ready (by simpa using hbusy)
      have hrb:b.roundOf=some (G.ln l):=by rw[hro,he];rfl
      have hs:=stepR_beginRound (P:=P) (b:=b) (a:=a) (k:=todo) (cs:=cs) hrb (run_beginRound j1 hready)
      have hlr:LRep P G w {r0 with busy:=true} {rec with state:=.busy}:=⟨fun h=>(by cases h),j2.pending,j2.ps,j2.fn,j2.fits,j2.body⟩
      have hstp:Step G w G (w.putObj (G.ln l) (.loop {rec with state:=.busy})):=(Step.refl G w).putObj j1 trivial trivial (.inr ⟨l,hlt,rfl⟩)
      exact next h (.one hs) hstp hk (hT.step hstp) (hH.putLoop hlt j1 hlr) (hm.put j1 fun x=>by simp)
    ·cases h
  | @code c ac k todo hcc hk=>
    cases c with
    |skip=>
     simp only[cCode,Option.some.injEq]at hcc
     subst hcc
     exact next h (.one stepR_skip) (.refl _ _) hk hT hH hm
    |seq x y=>
     simp only[cCode]at hcc
     split at hcc<;>simp only[Option.some.injEq,reduceCtorEq]at hcc
     rename_i h1 h2
     subst hcc
     exact next h (.one stepR_seq) (.refl _ _) (.code h1 (.code h2 hk)) hT hH hm
    |cond x y z=>
     simp only[cCode]at hcc
     split at hcc<;>simp only[Option.some.injEq,reduceCtorEq]at hcc
     rename_i hx h1 h2
     subst hcc
     simp only[run]at h
     split at h
     ·rename_i t ht
      have rx:=cOpd_rep (a:=a) hT hx
      rw[ht]at rx
      have hv:a.eval x=.bool t:=by
       generalize a.eval x=u at rx
       cases rx;rfl
      refine next h (.one (stepR_cond hv)) (.refl _ _) (.code ?_ hk) hT hH hm
      cases t
      ·exact h2
      ·exact h1
     ·cases h
    |block id c=>
     simp only[cCode,Option.map_eq_some_iff]at hcc
     obtain⟨ac',h1,rfl⟩:=hcc
     exact next h (.one stepR_block) (.refl _ _) (.code h1 (.blk hk)) hT hH hm
    |loop c=>
     simp only[cCode,Option.map_eq_some_iff]at hcc
     obtain⟨ac',h1,rfl⟩:=hcc
     exact next h (.one stepR_loop) (.refl _ _) (.code h1 (.lp h1 hk)) hT hH hm
    |exit id=>
     simp only[cCode,Option.some.injEq]at hcc
     subst hcc
     simp only[run]at h
     split at h
     ·rename_i k' hk'
      obtain⟨todo',h1,h2⟩:=hk.exit hk'
      exact next h (.one (stepR_exit h1)) (.refl _ _) h2 hT hH hm
     ·cases h
    |ret=>
     simp only[cCode,Option.some.injEq]at hcc
     subst hcc
     simp only[run]at h
     split at h
     ·cases h
     ·rename_i hrd
      cases ρ with
      |some l=>rw[hA]at hrd;simp at hrd
      |none=>
       have hs:step P (lone (b.atR a (.code .ret::todo)) cs w)=.next (lone {b.atR a (.code .ret::todo)with mode:=.returning} cs w):=stepR_ret (by rw[hro];rfl)
       exact(fn_return (fr:={b.atR a (.code .ret::todo)with mode:=.returning}) hfn (hres rfl) hT hH hst hm rfl rfl rfl hkind rfl h).of_steps (.one hs)
    |region id ops draw=>
     simp only[cCode]at hcc
     split at hcc
     ·rename_i az has
      split at hcc<;>simp only[Option.some.injEq,reduceCtorEq]at hcc
      rename_i hok
      subst hcc
      have hok':draw=true→drawOk2 az=true:=fun hd=>by
       cases hdo:drawOk2 az with
       |true=>rfl
       |false=>exact absurd ⟨hd,hdo⟩ hok
      simp only[run]at h
      have hbare:regionA call draw (if draw=true then az else az.map AOper.bare) T H=regionA call draw az T H:=by
       cases draw with
       |true=>rfl
       |false=>simpa[regionA]using runOps_bare az T H
      rw[hbare]at h
      have hwp:∀out,regionA call draw az T H=some out→∃e a' w',RegPost P G w nt a.defers out e a' w'∧ArrivesIn (Machine.fenced P (W b.roundOf)) P (lone (b.atR a (.code (.region id ops draw)::todo)) cs w) b todo cs e a' w':=
       fun out ho=>region_sound hc hmix has hok' (ro:=b.roundOf) hT hH ho b todo cs rfl trivial (fun d hd=>by simp[W,Fence.wide]at hd)
      split at h
      ·rename_i T' H1 ho
       obtain⟨e,a',w',hq,harr⟩:=hwp _ ho
       cases e with
       |normal=>
        obtain⟨G',T2,H2,e1,e2,e3,e4,e5⟩:=hq
        cases e1
        exact next h harr.steps e2 hk e3 e4 (by rw[e5];exact hm.step hH e2)
       |panic ch=>obtain⟨_,_,_,_,_,e1,_⟩:=hq;cases e1
       |_=>exact hq.elim
      ·rename_i v H1 ho
       simp only[Option.some.injEq,Prod.mk.injEq]at h
       obtain⟨rfl,rfl⟩:=h
       obtain⟨e,a',w',hq,harr⟩:=hwp _ ho
       cases e with
       |normal=>obtain⟨_,_,_,e1,_⟩:=hq;cases e1
       |panic ch=>
        obtain⟨u,v',H2,G',rfl,e1,e2,e3,e4,e5⟩:=hq
        cases e1
        obtain⟨todo',hs⟩:=harr
        exact(fn_panic (fr:={b.atR a' todo' with mode:=.panicking [{v:=u,recovered:=false}]}) hfn e3 (hst.trans e2) (hm.step hH e2) e4 rfl e5 rfl).of_steps hs.steps
       |_=>exact hq.elim
      ·cases h
     ·cases hcc
    |rangeFunc g ps x y=>
     simp only[cCode]at hcc
     split at hcc<;>try(simp at hcc;done)
     rename_i go aa ab hg ha hb
     split at hcc<;>simp only[Option.some.injEq,reduceCtorEq]at hcc
     rename_i hps
     subst hcc
     simp only[run]at h
     split at h
     ·cases h
     ·rename_i hrd
      cases ρ with
      |some l=>rw[hA]at hrd;simp at hrd
      |none=>
       have hmk:∀{G':Ghost}{w':World}{m:Nat},Step G w G' w'→w.heap.size≤m→w'.heap[m]?=some (.deferred (some []))→Marks w0 w' ({target:=.collected m,args:= #[]}::a.defers):=by
        intro G' w' m s2 s4 s5
        have hm':=hm.step hH s2
        refine⟨fun d hd=> ?_,List.pairwise_cons.2 ⟨fun d hd b0 hb0 he=> ?_,hm.apart⟩⟩
        ·rcases List.mem_cons.1 hd with rfl|hd
         ·exact⟨m,rfl,Nat.le_trans hst.size s4,s5⟩
         ·exact hm'.mark d hd
        ·obtain⟨b1,h1,h2,h3⟩:=hm.mark d hd
         rw[he]at h1
         injection h1 with h1
         injection hb0 with hb0
         have:=(Array.getElem?_eq_some_iff.1 h3).1
         omega
       split at h
       ·rename_i v4 H4 hra
        obtain⟨w',G',m,s1,s2,s3,s4,s5⟩:=range_sound hc (by rw[hro];rfl) ⟨fn,hfn⟩ hT hH hg ha hb hps hra cs todo
        exact next (a':={a with defers:={target:=.collected m,args:= #[]}::a.defers}) h s1 s2 hk (hT.step s2) s3 (hmk s2 s4 s5)
       ·rename_i v4 H4 hra
        simp only[Option.some.injEq,Prod.mk.injEq]at h
        obtain⟨rfl,rfl⟩:=h
        obtain⟨w',G',m,u,todo',s1,s2,s3,s6,s4,s5⟩:=range_panics hc (by rw[hro];rfl) ⟨fn,hfn⟩ hT hH hg ha hb hps hra cs todo
        exact(fn_panic (fr:={b.atR {a with defers:={target:=.collected m,args:= #[]}::a.defers} todo' with mode:=.panicking [{v:=u,recovered:=false}]}) hfn s3 (hst.trans s2) (hmk s2 s4 s5) s6 rfl rfl rfl).of_steps s1
       ·cases h
    |_=>simp[cCode]at hcc
def ExtOk(P:Program)(f:FuncId)(g:List AV→Heap→Option (AV×Heap)):Prop:=
 ∀az H v H',g az H=some (v,H')→∀G w vs,HRep P G w H→Args G w vs az→CallOk P f vs w (PostOk P G w (.ret v) H')
def TryOk(P:Program)(f:FuncId)(s:TypeId):Prop:=
 ∀(call:CallF),CallSound P call→∀g caps H r H',tryA (call (.fn g) caps H) s=some (r,H')→∀G w vs,HRep P G w H→Args G w vs [.func g caps]→CallOk P f vs w (PostOk P G w r H')
structure CfgOk(P:Program)(cfg:Cfg):Prop where
 mix:P.follows .mixedOrders=true
 fn:∀f A,cfg.F f=some A→∃fn mu,P.funcs[f]?=some fn∧cFunc P mu fn=some A
 ext:∀f g,cfg.ext f=some g→ExtOk P f g
 tr:∀f,cfg.tryF f=true→TryOk P f cfg.stopT
theorem initEnv_rep{vs:Array Value}{az:List AV}{nt:Nat}(h:Args G w vs az):TRep G w nt (vs++Array.replicate (nt-vs.size) undef) (initEnv az):=by
 refine⟨by simp;omega,fun i=> ?_⟩
 unfold initEnv
 have hs:=h.1
 by_cases hi:i<vs.size
 ·have h2:i<az.length:=by omega
  have e1:(vs++Array.replicate (nt-vs.size) undef).getD i undef=vs[i]:=by
   simp[Array.getD,hi,Array.getElem_append]
   intro h;omega
  have e2:(az[i]?).getD .undef=az[i]:=by simp[h2]
  rw[e1,e2]
  exact h.2 i hi h2
 ·have e2:(az[i]?).getD .undef=.undef:=by
   rw[List.getElem?_eq_none (by omega)];rfl
  rw[e2]
  exact .undef _
theorem psetA_rep{nt:Nat}:∀{ps:List Nat}{vs:List Value}{az:List AV}{tmps:Array Value}{T:Env},TRep G w nt tmps T→ps.all (fun d=>decide (d<nt))=true→vs.length=az.length→ps.length=vs.length→
 (∀i(h1:i<vs.length)(h2:i<az.length),Rep G w vs[i] az[i])→TRep G w nt ((ps.zip vs).foldl (fun tmps(t,a)=>tmps.setIfInBounds t a) tmps) (psetA T ps az)
 |[],vs,az,tmps,T,hT,_,_,_,_=>by simpa[psetA]using hT
 |p::ps,[],az,tmps,T,hT,_,_,h,_=>by simp at h
 |p::ps,v::vs,[],tmps,T,hT,_,h,_,_=>by simp at h
 |p::ps,v::vs,a::az,tmps,T,hT,hp,h1,h2,hr=>by
  simp only[List.all_cons,Bool.and_eq_true,decide_eq_true_eq]at hp
  simp only[List.zip_cons_cons,List.foldl_cons,psetA]
  exact psetA_rep (hT.put hp.1 (hr 0 (by simp) (by simp))) hp.2 (by simpa using h1) (by simpa using h2) fun i i1 i2=>by
   have:=hr (i+1) (by simpa using i1) (by simpa using i2)
   simpa using this
theorem cFunc_inv{fn:Func}{A:AFunc}(h:cFunc P mu fn=some A):∃c ac,fn.body=some c∧cCode P mu fn.ntmps c=some ac∧cRes P fn.results.toList=some A.results∧A.body=ac∧A.round=false∧(fn.name== "runtime.NumGoroutine")=false:=by
 unfold cFunc at h
 split at h
 ·rename_i c hb
  split at h
  ·rename_i ac rs h1 h2
   split at h
   ·cases h
   ·rename_i hn
    simp only[Option.some.injEq]at h
    subst h
    exact⟨c,ac,hb,h1,h2,rfl,rfl,by simpa using hn⟩
  ·cases h
 ·cases h
theorem fn_sound{call:CallF}(hc:CallSound P call)(hmix:P.follows .mixedOrders=true){f:FuncId}{fn:Func}{A:AFunc}(hf:P.funcs[f]?=some fn)(hA:cFunc P mu fn=some A){n:Nat}{az:List AV}{H H':Heap}{r:ARes}
 (h:run call A n [.c A.body] (initEnv az) H=some (r,H')){vs:Array Value}(hH:HRep P G w H)(hargs:Args G w vs az):CallOk P f vs w (PostOk P G w r H'):=by
 obtain⟨c,ac,h1,h2,h3,h4,h5,h6⟩:=cFunc_inv hA
 refine .inl ⟨w,?_,fun cs=> ?_,rfl⟩
 ·unfold callFunc
  simp only[Sem.run_bind,run_program,Result.andThen_ok,hf,h6,Bool.false_eq_true,if_false,h1,Option.isNone_some]
  rfl
 ·let b:Frame:={(default:Frame)with fn:=f,kind:=.normal,roundOf:=none}
  have henter:Frame.enter P f vs .normal=b.atR {tmps:=vs++Array.replicate (fn.ntmps-vs.size) undef,defers:=[]} [.code c]:=by
   simp[Frame.enter,Frame.atR,hf,h1,b]
  have:=run_sim hc hmix (ρ:=none) (b:=b) (fn:=fn) (G0:=G) (w0:=w) (cs:=cs) hf (fun _=>h3) h5 rfl n _ _ _ _ _ h G w {tmps:=vs++Array.replicate (fn.ntmps-vs.size) undef,defers:=[]} [.code c] rfl (fun l e=>by cases e)
   (.code (by rw[h4];exact h2) .nil) (initEnv_rep hargs) hH (.refl _ _) (.nil _ _)
  rw[←henter]at this
  obtain⟨e,w',fr,G',e1,e2,e3,e4,e5,e6⟩:=this
  refine⟨e,w',fr,⟨G',e1,e2,e3⟩,?_,e5,e6⟩
  cases e with
  |outgrown=>cases r<;>obtain⟨u,h',_⟩:=e3<;>cases h'
  |returned u=>exact e4
  |panicked ch=>exact e4
theorem yl_sound {call : CallF} (hc : CallSound P call) (hmix : P.follows .mixedOrders = true) {n l : Nat} {az : List AV} {H H1 : Heap} {r0 r1 : LRec} {v0 : AV} (hl : H.loops[l]? = some r0) (hlen : az.length = r0.ps.length)
    (h : run call { results := [], body := .skip, round := true } n [.c r0.assign, .beg l, .c r0.body] (psetA r0.T r0.ps az) H = some (.ret v0, H1)) (hl1 : H1.loops[l]? = some r1) {vs : Array Value} (hH : HRep P G w H) (hargs : Args G w vs az) :
    ∃ rec, w.heap[G.ln l]? = some (.loop rec) ∧ vs.size = rec.params.size ∧ RoundIn (W none) 0 P (G.ln l) rec.fn ((rec.params.zip vs).foldl (fun tmps (t, a) => tmps.setIfInBounds t a) rec.tmps) rec.assign rec.body w
      (PostOk P G w (.ret (.bool true)) { H1 with loops := H1.loops.set l { r1 with busy := false } }) := by
  obtain ⟨hlt, hr0⟩ := List.getElem?_eq_some_iff.1 hl
  obtain ⟨rec, j1, j2⟩ := hH.loop l hlt
  rw [hr0] at j2
  obtain ⟨fn, hfn⟩ := j2.fn
  obtain ⟨mu, nt, k1, k2, k3, k4⟩ := j2.body
  have hlt' : l < G.nl := by rw [hH.nl]; exact hlt
  have hsz : vs.size = rec.params.size := by
    rw [hargs.1, hlen, ← j2.ps]; simp
  refine ⟨rec, j1, hsz, trivial, fun c cs _ => ?_⟩
  let b : Frame := { (default : Frame) with fn := rec.fn, kind := .normal, roundOf := some (G.ln l) }
  have hb0 : Frame.round (G.ln l) rec.fn ((rec.params.zip vs).foldl (fun tmps (t, a) => tmps.setIfInBounds t a) rec.tmps) rec.assign rec.body .normal =
      b.atR { tmps := (rec.params.zip vs).foldl (fun tmps (t, a) => tmps.setIfInBounds t a) rec.tmps, defers := [] } [.code rec.assign, .beginRound, .code rec.body] := by
    simp [Frame.round, Frame.atR, b]
  have hT : TRep G w nt ((rec.params.zip vs).foldl (fun tmps (t, a) => tmps.setIfInBounds t a) rec.tmps) (psetA r0.T r0.ps az) := by
    have := psetA_rep (vs := vs.toList) (az := az) k1 k2 (by simpa using hargs.1) (by rw [← j2.ps]; simpa using hsz.symm) fun i h1 h2 => by simpa using hargs.2 i (by simpa using h1) h2
    rw [← j2.ps, ← Array.toList_zip, Array.foldl_toList] at this
    rw [← j2.ps]
    exact this
  have := run_sim hc hmix (ρ := some l) (b := b) (fn := fn) (G0 := G) (w0 := w) (cs := c :: cs) hfn (fun e => by cases e) rfl rfl n _ _ _ _ _ h G w { tmps := (rec.params.zip vs).foldl (fun tmps (t, a) => tmps.setIfInBounds t a) rec.tmps, defers := [] }
    [.code rec.assign, .beginRound, .code rec.body] rfl (fun l' e => by cases e; exact hlt') (.code k3 (.beg rfl (.code k4 .nil))) hT hH (.refl _ _) (.nil _ _)
  rw [← hb0] at this
  obtain ⟨a', w1, G1, s1, s2, s3⟩ := this
  -- the record is ready again
  obtain ⟨hlt1, hr1⟩ := List.getElem?_eq_some_iff.1 hl1
  obtain ⟨rec1, i1, i2⟩ := s2.loop l hlt1
  rw [hr1] at i2
  have eln : G1.ln l = G.ln l := s1.ln l hlt'
  have hend : (Instr.endRound (G.ln l) none).run P w1 = .ok (.bool true) (w1.putObj (G.ln l) (.loop { rec1 with state := .ready, pending := none })) := by
    have := run_endRound (P := P) none (eln ▸ i1)
    simpa using this
  have hlr : LRep P G1 w1 { r1 with busy := false } { rec1 with state := .ready, pending := none } := ⟨fun _ => rfl, rfl, i2.ps, i2.fn, i2.fits, i2.body⟩
  refine ⟨.returned (.bool true), w1.putObj (G.ln l) (.loop { rec1 with state := .ready, pending := none }), ⟨G1, ?_, ?_, _, rfl, .bool true⟩, ?_⟩
  · have i1' := i1
    rw [eln] at i1'
    exact s1.putObj (o2 := .loop { rec1 with state := .ready, pending := none }) i1' trivial trivial (.inr ⟨l, hlt', rfl⟩)
  · have := s2.putLoop (Nat.lt_of_lt_of_le hlt' s1.nl) i1 hlr
    rw [eln] at this
    exact this
  · have hs := stepR_round_end (P := P) (b := b) (a := a') (cs := cs) (c := c) rfl rfl hend
    exact stepsIn_wide.2 (Steps.trans s3 (.one hs))
theorem yl_panics{call:CallF}(hc:CallSound P call)(hmix:P.follows .mixedOrders=true){n l:Nat}{az:List AV}{H H1:Heap}{r0:LRec}{v0:AV}(hl:H.loops[l]?=some r0)(hlen:az.length=r0.ps.length)
 (h:run call {results:=[],body:=.skip,round:=true} n [.c r0.assign,.beg l,.c r0.body] (psetA r0.T r0.ps az) H=some (.pan v0,H1)){vs:Array Value}(hH:HRep P G w H)(hargs:Args G w vs az):
 ∃rec,w.heap[G.ln l]?=some (.loop rec)∧vs.size=rec.params.size∧RoundIn (W none) 0 P (G.ln l) rec.fn ((rec.params.zip vs).foldl (fun tmps(t,a)=>tmps.setIfInBounds t a) rec.tmps) rec.assign rec.body w
  (PostOk P G w (.pan v0) H1):=by
 obtain⟨hlt,hr0⟩:=List.getElem?_eq_some_iff.1 hl
 obtain⟨rec,j1,j2⟩:=hH.loop l hlt
 rw[hr0]at j2
 obtain⟨fn,hfn⟩:=j2.fn
 obtain⟨mu,nt,k1,k2,k3,k4⟩:=j2.body
 have hlt':l<G.nl:=by rw[hH.nl];exact hlt
 have hsz:vs.size=rec.params.size:=by
  rw[hargs.1,hlen,←j2.ps];simp
 refine⟨rec,j1,hsz,trivial,fun c cs _=> ?_⟩
 let b:Frame:={(default:Frame)with fn:=rec.fn,kind:=.normal,roundOf:=some (G.ln l)}
 have hb0:Frame.round (G.ln l) rec.fn ((rec.params.zip vs).foldl (fun tmps(t,a)=>tmps.setIfInBounds t a) rec.tmps) rec.assign rec.body .normal=
  b.atR {tmps:=(rec.params.zip vs).foldl (fun tmps(t,a)=>tmps.setIfInBounds t a) rec.tmps,defers:=[]} [.code rec.assign,.beginRound,.code rec.body]:=by
  simp[Frame.round,Frame.atR,b]
 have hT:TRep G w nt ((rec.params.zip vs).foldl (fun tmps(t,a)=>tmps.setIfInBounds t a) rec.tmps) (psetA r0.T r0.ps az):=by
  have:=psetA_rep (vs:=vs.toList) (az:=az) k1 k2 (by simpa using hargs.1) (by rw[←j2.ps];simpa using hsz.symm) fun i h1 h2=>by simpa using hargs.2 i (by simpa using h1) h2
  rw[←j2.ps,←Array.toList_zip,Array.foldl_toList]at this
  rw[←j2.ps]
  exact this
 have:=run_sim hc hmix (ρ:=some l) (b:=b) (fn:=fn) (G0:=G) (w0:=w) (cs:=c::cs) hfn (fun e=>by cases e) rfl rfl n _ _ _ _ _ h G w {tmps:=(rec.params.zip vs).foldl (fun tmps(t,a)=>tmps.setIfInBounds t a) rec.tmps,defers:=[]}
  [.code rec.assign,.beginRound,.code rec.body] rfl (fun l' e=>by cases e;exact hlt') (.code k3 (.beg rfl (.code k4 .nil))) hT hH (.refl _ _) (.nil _ _)
 rw[←hb0]at this
 obtain⟨e,w',fr,G',e1,e2,e3,e4,e5,e6⟩:=this
 obtain⟨u,rfl,hu⟩:=e3
 exact⟨.panicked [{v:=u,recovered:=false}],w',⟨G',e1,e2,u,rfl,hu⟩,stepsIn_wide.2 (Steps.trans e4 (.one (step_leave_panicked e6)))⟩
theorem callN_sound{cfg:Cfg}(hcfg:CfgOk P cfg):∀n,CallSound P (callN cfg n):=by
 intro n
 induction n with
 |zero=>exact⟨fun f az H r H' h=>by simp[callN]at h,fun l az H r H' h=>by simp[callN]at h⟩
 |succ n ih=>
  refine⟨fun f az H r H' h G w vs hH hargs=> ?_,fun l az H r H' h G w vs hH hargs hlt=> ?_⟩
  ·rw[callN]at h
   simp only at h
   split at h
   ·rename_i ht
    split at h
    ·rename_i g caps
     exact hcfg.tr f ht _ ih g caps H r H' h G w vs hH hargs
    ·cases h
   ·split at h
    ·rename_i g hg
     split at h<;>simp only[Option.some.injEq,Prod.mk.injEq,reduceCtorEq]at h
     rename_i v hv
     obtain⟨rfl,rfl⟩:=h
     exact hcfg.ext f g hg az H v.1 v.2 hv G w vs hH hargs
    ·split at h
     ·rename_i A hA
      obtain⟨fn,mu,h1,h2⟩:=hcfg.fn f A hA
      exact fn_sound ih hcfg.mix h1 h2 h hH hargs
     ·cases h
  ·rw[callN]at h
   simp only at h
   split at h
   ·rename_i r0 hr0
    split at h
    ·cases h
    ·rename_i hlen
     split at h
     ·rename_i v0 H1 hrun
      split at h<;>simp only[Option.some.injEq,Prod.mk.injEq,reduceCtorEq]at h
      rename_i r1 hr1
      obtain⟨rfl,rfl⟩:=h
      exact yl_sound ih hcfg.mix hr0 (by simpa using hlen) hrun hr1 hH hargs
     ·rename_i v0 H1 hrun
      simp only[Option.some.injEq,Prod.mk.injEq]at h
      obtain⟨rfl,rfl⟩:=h
      exact yl_panics ih hcfg.mix hr0 (by simpa using hlen) hrun hH hargs
     ·cases h
   ·cases h
theorem calls_of{cfg:Cfg}(hcfg:CfgOk P cfg){n:Nat}{f:FuncId}{az:List AV}{v:AV}{H':Heap}(h:callN cfg n (.fn f) az Heap.nil=some (.ret v,H'))(hF:(cfg.F f).isSome=true)(hx:cfg.ext f=none)(ht:cfg.tryF f=false)
 {vs:Array Value}(hH:HRep P G w Heap.nil)(hargs:Args G w vs az):Calls P f vs w fun e w'=>∃u G',e=.returned u∧Step G w G' w'∧Rep G' w' u v:=by
 cases n with
 |zero=>simp[callN]at h
 |succ n=>
  rw[callN]at h
  simp only[ht,Bool.false_eq_true,if_false,hx]at h
  split at h
  ·rename_i A hA
   obtain⟨fn,mu,h1,h2⟩:=hcfg.fn f A hA
   rcases fn_sound (callN_sound hcfg n) hcfg.mix h1 h2 h hH hargs with⟨w1,c1,c2,_⟩|⟨u,w',c1,c2⟩
   ·exact c2.mono fun e w' hp=>by
     obtain⟨G',g1,g2,u,rfl,g3⟩:=hp
     exact⟨u,G',rfl,g1,g3⟩
   ·exfalso
    obtain⟨c,ac,d1,d2,d3,d4,d5,d6⟩:=cFunc_inv h2
    unfold callFunc at c1
    simp only[Sem.run_bind,run_program,Result.andThen_ok,h1,d6,Bool.false_eq_true,if_false,d1,Option.isNone_some]at c1
    cases c1
  ·cases h
end Go.Aa


