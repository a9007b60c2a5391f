import Derived.Below
import Derived.OwnWalk
import Derived.Laws.Sem
import Derived.Laws.Cells
import Derived.Laws.Append
import Derived.Laws.Entries
import Derived.WalkKit
import Derived.KernelRfl
import Derived.Laws.Tables
import Derived.Laws.BytesArg
set_option linter.unusedVariables false
set_option linter.unusedSimpArgs false
namespace Go.Aa
inductive SK where
 |sh|full|own(t:Nat)|nil
 deriving DecidableEq,Repr
def SK.tight:SK→Bool
 |.full|.nil=>true
 |_=>false
inductive AV where
 |undef
 |bool(b:Bool)
 |int(k:IntKind)(n:Int)
 |bQ(bits:Nat)
 |nan
 |str(s:List UInt8)
 |sl(k:SK)(l:List AV)
 |agg(cs:List AV)
 |tuple(vs:List AV)
 |ptr(k off:Nat)
 |ref(cs:List AV)
 |dO
 |func(f:FuncId)(caps:List AV)
 |nilFunc
 |iface(t:TypeId)(v:AV)
 |nilIface
 |cY(k off len es:Nat)
 |yield(l:Nat)
 deriving Inhabited
def AV.cells:AV→List AV
 |.agg cs=>cs
 |x=>[x]
inductive AV.Data:AV→Prop
 |undef:Data .undef
 |bool(b):Data (.bool b)
 |int(k n):Data (.int k n)
 |bQ(b):Data (.bQ b)
 |nan:Data .nan
 |str(s):Data (.str s)
 |sl(k:SK)(l)(hk:∀t,k≠.own t)(h:∀x∈l,∀y∈x.cells,Data y):Data (.sl k l)
 |agg(cs)(h:∀x∈cs,Data x):Data (.agg cs)
 |tuple(cs)(h:∀x∈cs,Data x):Data (.tuple cs)
 |ref(cs)(h:∀x∈cs,Data x):Data (.ref cs)
 |dO:Data .dO
 |func(f)(cs)(h:∀x∈cs,Data x):Data (.func f cs)
 |nilFunc:Data .nilFunc
 |iface(t x)(h:Data x):Data (.iface t x)
 |nilIface:Data .nilIface
structure aF where
 lim:Nat→Nat
 nb:Nat
 μ:Nat→Nat
 nt:Nat
 τ:Nat→Nat
 ext:Nat→Nat
 cap:Nat→Nat
 mw:Nat→Nat
 nl:Nat
 ln:Nat→Nat
 mc:Nat→Nat
 hole:Nat→Bool
def aF.on(G:aF)(k:Nat):Prop:=k<G.nb∧G.hole k=false
inductive bG(G:aF)(w:World):Value→AV→Prop
 |undef(v:Value):bG G w v .undef
 |bool(b:Bool):bG G w (.bool b) (.bool b)
 |int(k:IntKind)(n:Int):bG G w (.int k n) (.int k n)
 |bQ(b:Nat):bG G w (.float .f64 b) (.bQ b)
 |nan(b:Nat)(h:(FloatKind.f64.format.read b).isNaN=true):bG G w (.float .f64 b) .nan
 |str(s:List UInt8):bG G w (.string ⟨s.toArray⟩) (.str s)
 |gZ(a:Option Addr)(c:Nat)(k:SK)(hc:k.tight=true→c=0)(ht:∀t,k≠.own t):bG G w (.slice a 0 c) (.sl k [])
 |sl(a:Addr)(c:Nat)(k:SK)(l:List AV)(es:Nat)(us:Nat→Nat→Value)
   (hl:l≠[])(hc:l.length≤c)(hcm:c≤9223372036854775807)(hs:a.spot=none)(ji:∀i(hi:i<l.length),(l[i]).cells.length=es)(fA:0<es)(hd:∀x∈l,∀y∈x.cells,AV.Data y)
   (hlim:a.off+l.length*es≤G.lim a.block)
   (hcell:∀i,i<l.length→∀j,j<es→w.cell? (a.add (i*es+j))=some (us i j))
   (bZ:∀i(hi:i<l.length)j(hj:j<(l[i]).cells.length),bG G w (us i j) ((l[i]).cells[j]))
   (hfull:k.tight=true→c=l.length)
   (hown:∀t,k=.own t→t<G.nt∧es=G.mw t∧l.length≤G.ext t∧(l.length=G.ext t→a=⟨G.τ t,0,none⟩∧c=G.cap t)):bG G w (.slice (some a) l.length c) (.sl k l)
 |agg(us:Array Value)(cs:List AV)(hn:us.size=cs.length)(h:∀i(h1:i<us.size)(h2:i<cs.length),bG G w us[i] cs[i]):bG G w (.agg us) (.agg cs)
 |tuple(us:Array Value)(cs:List AV)(hn:us.size=cs.length)(h:∀i(h1:i<us.size)(h2:i<cs.length),bG G w us[i] cs[i]):bG G w (.tuple us) (.tuple cs)
 |ptr(k off:Nat)(hk:G.on k):bG G w (.pointer (some ⟨G.μ k,off,none⟩)) (.ptr k off)
 |ref(a:Addr)(cs:List AV)(us:Nat→Value)(hs:a.spot=none)(hd:∀y∈cs,AV.Data y)(hlim:a.off+cs.length≤G.lim a.block)
   (hcell:∀j,j<cs.length→w.cell? (a.add j)=some (us j))(bZ:∀j(hj:j<cs.length),bG G w (us j) cs[j]):bG G w (.pointer (some a)) (.ref cs)
 |dO:bG G w (.pointer none) .dO
 |func(f:FuncId)(us:Array Value)(cs:List AV)(hn:us.size=cs.length)(h:∀i(h1:i<us.size)(h2:i<cs.length),bG G w us[i] cs[i]):bG G w (.func (.func f) #[] us) (.func f cs)
 |nilFunc:bG G w .nilFunc .nilFunc
 |iface(t:TypeId)(v:Value)(x:AV)(h:bG G w v x):bG G w (.iface t v) (.iface t x)
 |nilIface:bG G w .nilIface .nilIface
 |cY(k off n c es:Nat)(hk:G.on k)(hc:n≤c)(hcm:c≤9223372036854775807)(fA:0<es)(hcap:off+c*es≤G.mc k):bG G w (.slice (some ⟨G.μ k,off,none⟩) n c) (.cY k off n es)
 |yield(l:Nat)(hl:l<G.nl):bG G w (.func (.yield (G.ln l)) #[] #[]) (.yield l)
structure Step(G:aF)(w:World)(G':aF)(w':World):Prop where
 os:w'.os=w.os
 tape:w'.tape=w.tape
 output:w'.output=w.output
 size:w.heap.size≤w'.heap.size
 lim:∀b,G.lim b≤G'.lim b
 cell:∀b off,off<G.lim b→w'.cell? ⟨b,off,none⟩=w.cell? ⟨b,off,none⟩
 nb:G.nb≤G'.nb
 hole:∀k,k<G.nb→G'.hole k=G.hole k
 μ:∀k,G.on k→G'.μ k=G.μ k
 jJ:∀k,G'.on k→(∃i,G.on i∧G'.μ k=G.μ i)∨w.heap.size≤G'.μ k
 mc:∀k,G.on k→G'.mc k=G.mc k
 nt:G.nt≤G'.nt
 ext:∀t,t<G.nt→G.ext t≤G'.ext t
 τ:∀t,t<G.nt→G'.ext t=G.ext t→G'.τ t=G.τ t∧G'.cap t=G.cap t
 mw:∀t,t<G.nt→G'.mw t=G.mw t
 kH:∀t,t<G'.nt→(t<G.nt∧G'.τ t=G.τ t)∨w.heap.size≤G'.τ t
 nl:G.nl≤G'.nl
 ln:∀k,k<G.nl→G'.ln k=G.ln k
 pF:∀k,G.nl≤k→k<G'.nl→w.heap.size≤G'.ln k
 frame:∀b,b<w.heap.size→(∀k,G.on k→b≠G.μ k)→(∀t,t<G.nt→b≠G.τ t)→(∀k,k<G.nl→b≠G.ln k)→w'.heap[b]?=w.heap[b]?∧G'.lim b=G.lim b
theorem Step.refl(G:aF)(w:World):Step G w G w:=
 ⟨rfl,rfl,rfl,Nat.le_refl _,fun _=>Nat.le_refl _,fun _ _ _=>rfl,Nat.le_refl _,fun _ _=>rfl,fun _ _=>rfl,fun k h=>.inl ⟨k,h,rfl⟩,fun _ _=>rfl,Nat.le_refl _,fun _ _=>Nat.le_refl _,
  fun _ _ _=>⟨rfl,rfl⟩,fun _ _=>rfl,fun _ h=>.inl ⟨h,rfl⟩,Nat.le_refl _,fun _ _=>rfl,fun _ h1 h2=>absurd h2 (by omega),fun _ _ _ _ _=>⟨rfl,rfl⟩⟩
theorem Step.on{G G':aF}{w w':World}(h:Step G w G' w'){k:Nat}(hk:G.on k):G'.on k:=⟨Nat.lt_of_lt_of_le hk.1 h.nb,(h.hole k hk.1).trans hk.2⟩
theorem Step.trans{G1 G2 G3:aF}{w1 w2 w3:World}(h:Step G1 w1 G2 w2)(k:Step G2 w2 G3 w3):Step G1 w1 G3 w3 where
 os:=k.os.trans h.os
 tape:=k.tape.trans h.tape
 output:=k.output.trans h.output
 size:=Nat.le_trans h.size k.size
 lim:=fun b=>Nat.le_trans (h.lim b) (k.lim b)
 cell:=fun b off ho=>(k.cell b off (Nat.lt_of_lt_of_le ho (h.lim b))).trans (h.cell b off ho)
 nb:=Nat.le_trans h.nb k.nb
 hole:=fun i hi=>(k.hole i (Nat.lt_of_lt_of_le hi h.nb)).trans (h.hole i hi)
 μ:=fun i hi=>(k.μ i (h.on hi)).trans (h.μ i hi)
 jJ:=fun i hi=>by
  rcases k.jJ i hi with⟨j,hj,e⟩|h2
  ·rcases h.jJ j hj with⟨j2,hj2,e2⟩|h3
   ·exact .inl ⟨j2,hj2,e.trans e2⟩
   ·exact .inr (by rw[e];exact h3)
  ·exact .inr (Nat.le_trans h.size h2)
 mc:=fun i hi=>(k.mc i (h.on hi)).trans (h.mc i hi)
 nt:=Nat.le_trans h.nt k.nt
 ext:=fun t ht=>Nat.le_trans (h.ext t ht) (k.ext t (Nat.lt_of_lt_of_le ht h.nt))
 τ:=fun t ht he=>by
  have h1:=h.ext t ht
  have h2:=k.ext t (Nat.lt_of_lt_of_le ht h.nt)
  have a:=h.τ t ht (by omega)
  have b:=k.τ t (Nat.lt_of_lt_of_le ht h.nt) (by omega)
  exact⟨b.1.trans a.1,b.2.trans a.2⟩
 mw:=fun t ht=>(k.mw t (Nat.lt_of_lt_of_le ht h.nt)).trans (h.mw t ht)
 kH:=fun t ht=>by
  rcases k.kH t ht with⟨h2,he⟩|h2
  ·rcases h.kH t h2 with⟨h3,SO⟩|h3
   ·exact .inl ⟨h3,he.trans SO⟩
   ·exact .inr (by rw[he];exact h3)
  ·exact .inr (Nat.le_trans h.size h2)
 nl:=Nat.le_trans h.nl k.nl
 ln:=fun i hi=>(k.ln i (Nat.lt_of_lt_of_le hi h.nl)).trans (h.ln i hi)
 pF:=fun i h1 h2=>by
  by_cases hi:i<G2.nl
  ·rw[k.ln i hi];exact h.pF i h1 hi
  ·exact Nat.le_trans h.size (k.pF i (by omega) h2)
 frame:=fun b hb h1 h2 h3=>by
  obtain⟨e1,e2⟩:=h.frame b hb h1 h2 h3
  obtain⟨f1,f2⟩:=k.frame b (Nat.lt_of_lt_of_le hb h.size)
   (fun i hi e=>by
     rcases h.jJ i hi with⟨j,hj,e2⟩|h4
     ·exact h1 j hj (e.trans e2)
     ·omega)
   (fun t ht e=>by
     rcases h.kH t ht with⟨h3,SO⟩|h3
     ·exact h2 t h3 (e.trans SO)
     ·omega)
   (fun i hi e=>by
     by_cases hi':i<G1.nl
     ·exact h3 i hi' (e.trans (h.ln i hi'))
     ·have:=h.pF i (by omega) hi;omega)
  exact⟨f1.trans e1,f2.trans e2⟩
theorem dD{a:Addr}(hs:a.spot=none)(n:Nat):a.add n=⟨a.block,a.off+n,none⟩:=by
 unfold Addr.add
 split
 ·next h=>subst h;cases a;simp_all
 ·rfl
structure pG(G:aF)(w:World)(G':aF)(w':World):Prop where
 lim:∀b,G.lim b≤G'.lim b
 cell:∀b off,off<G.lim b→w'.cell? ⟨b,off,none⟩=w.cell? ⟨b,off,none⟩
 nb:G.nb≤G'.nb
 on:∀k,G.on k→G'.on k
 μ:∀k,G.on k→G'.μ k=G.μ k
 nt:G.nt≤G'.nt
 ext:∀t,t<G.nt→G.ext t≤G'.ext t
 τ:∀t,t<G.nt→G'.ext t=G.ext t→G'.τ t=G.τ t∧G'.cap t=G.cap t
 mw:∀t,t<G.nt→G'.mw t=G.mw t
 nl:G.nl≤G'.nl
 ln:∀k,k<G.nl→G'.ln k=G.ln k
 mc:∀k,G.on k→G'.mc k=G.mc k
theorem Step.keep{G G':aF}{w w':World}(h:Step G w G' w'):pG G w G' w':=⟨h.lim,h.cell,h.nb,fun _=>h.on,h.μ,h.nt,h.ext,h.τ,h.mw,h.nl,h.ln,h.mc⟩
theorem bG.keep{G G':aF}{w w':World}(hst:pG G w G' w'){v:Value}{x:AV}(h:bG G w v x):bG G' w' v x:=by
 induction h with
 |undef v=>exact .undef v
 |bool b=>exact .bool b
 |int k n=>exact .int k n
 |bQ b=>exact .bQ b
 |nan b h=>exact .nan b h
 |str s=>exact .str s
 |gZ a c k hc ht=>exact .gZ a c k hc ht
 |sl a c k l es us hl hc hcm hs ji fA hd hlim hcell bZ hfull hown ih=>
  refine .sl a c k l es us hl hc hcm hs ji fA hd (Nat.le_trans hlim (hst.lim _)) (fun i hi j hj=> ?_) ih hfull (fun t ht=> ?_)
  ·rw[←hcell i hi j hj,dD hs]
   refine hst.cell _ _ ?_
   have:i*es+es≤l.length*es:=by
    have:=Nat.mul_le_mul_right es (show i+1≤l.length from hi)
    rw[Nat.add_mul]at this;omega
   omega
  ·obtain⟨h1,h0,h2,h3⟩:=hown t ht
   have hx:=hst.ext t h1
   refine⟨Nat.lt_of_lt_of_le h1 hst.nt,by rw[hst.mw t h1];exact h0,by omega,fun he=> ?_⟩
   have he':G'.ext t=G.ext t:=by omega
   obtain⟨e1,e2⟩:=h3 (by omega)
   obtain⟨f1,f2⟩:=hst.τ t h1 he'
   exact⟨by rw[f1];exact e1,by rw[f2];exact e2⟩
 |agg us cs hn h ih=>exact .agg us cs hn ih
 |tuple us cs hn h ih=>exact .tuple us cs hn ih
 |ptr k off hk=>rw[←hst.μ k hk];exact .ptr k off (hst.on k hk)
 |ref a cs us hs hd hlim hcell bZ ih=>
  refine .ref a cs us hs hd (Nat.le_trans hlim (hst.lim _)) (fun j hj=> ?_) ih
  rw[←hcell j hj,dD hs]
  exact hst.cell _ _ (by omega)
 |dO=>exact .dO
 |func f us cs hn h ih=>exact .func f us cs hn ih
 |nilFunc=>exact .nilFunc
 |iface t v x h ih=>exact .iface t v x ih
 |nilIface=>exact .nilIface
 |cY k off n c es hk hc hcm fA hcap=>rw[←hst.μ k hk];exact .cY k off n c es (hst.on k hk) hc hcm fA (by rw[hst.mc k hk];exact hcap)
 |yield l hl=>rw[←hst.ln l hl];exact .yield l (Nat.lt_of_lt_of_le hl hst.nl)
theorem bG.step{G G':aF}{w w':World}(hst:Step G w G' w'){v:Value}{x:AV}(h:bG G w v x):bG G' w' v x:=h.keep hst.keep
theorem bG.data{G G':aF}{w:World}{v:Value}{x:AV}(h:bG G w v x)(hd:x.Data)(hl:∀b,G.lim b≤G'.lim b):bG G' w v x:=by
 induction h with
 |undef v=>exact .undef v
 |bool b=>exact .bool b
 |int k n=>exact .int k n
 |bQ b=>exact .bQ b
 |nan b h=>exact .nan b h
 |str s=>exact .str s
 |gZ a c k hc ht=>exact .gZ a c k hc ht
 |sl a c k l es us DL hc hcm hs ji fA yC hlim hcell bZ hfull hown ih=>
  cases hd with
  |sl _ _ hk hdl=>
   refine .sl a c k l es us DL hc hcm hs ji fA yC (Nat.le_trans hlim (hl _)) hcell (fun i hi j hj=>ih i hi j hj (hdl _ (List.getElem_mem hi) _ (List.getElem_mem hj))) hfull (fun t ht=>absurd ht (hk t))
 |agg us cs hn h ih=>cases hd with|agg _ hd=>exact .agg us cs hn fun i h1 h2=>ih i h1 h2 (hd _ (List.getElem_mem h2))
 |tuple us cs hn h ih=>cases hd with|tuple _ hd=>exact .tuple us cs hn fun i h1 h2=>ih i h1 h2 (hd _ (List.getElem_mem h2))
 |ptr k off hk=>cases hd
 |ref a cs us hs yC hlim hcell bZ ih=>cases hd with|ref _ hd=>exact .ref a cs us hs yC (Nat.le_trans hlim (hl _)) hcell fun j hj=>ih j hj (hd _ (List.getElem_mem hj))
 |dO=>exact .dO
 |func f us cs hn h ih=>cases hd with|func _ _ hd=>exact .func f us cs hn fun i h1 h2=>ih i h1 h2 (hd _ (List.getElem_mem h2))
 |nilFunc=>exact .nilFunc
 |iface t v x h ih=>cases hd with|iface _ _ hd=>exact .iface t v x (ih hd)
 |nilIface=>exact .nilIface
 |cY k off n c es hk hc hcm fA hcap=>cases hd
 |yield l hl=>cases hd
inductive Fits(nb nt nl:Nat):AV→Prop
 |data(x:AV)(h:x.Data):Fits nb nt nl x
 |sl(k:SK)(l:List AV)(h:∀t,k=.own t→t<nt):Fits nb nt nl (.sl k l)
 |agg(cs:List AV)(h:∀x∈cs,Fits nb nt nl x):Fits nb nt nl (.agg cs)
 |tuple(cs:List AV)(h:∀x∈cs,Fits nb nt nl x):Fits nb nt nl (.tuple cs)
 |ptr(k off:Nat)(h:k<nb):Fits nb nt nl (.ptr k off)
 |func(f:FuncId)(cs:List AV)(h:∀x∈cs,Fits nb nt nl x):Fits nb nt nl (.func f cs)
 |iface(t:TypeId)(x:AV)(h:Fits nb nt nl x):Fits nb nt nl (.iface t x)
 |cY(k off n es:Nat)(h:k<nb):Fits nb nt nl (.cY k off n es)
 |yield(l:Nat)(h:l<nl):Fits nb nt nl (.yield l)
theorem bG.fits{G:aF}{w:World}{v:Value}{x:AV}(h:bG G w v x):Fits G.nb G.nt G.nl x:=by
 induction h with
 |undef v=>exact .data _ .undef
 |bool b=>exact .data _ (.bool _)
 |int k n=>exact .data _ (.int _ _)
 |bQ b=>exact .data _ (.bQ _)
 |nan b h=>exact .data _ .nan
 |str s=>exact .data _ (.str _)
 |gZ a c k hc ht=>exact .sl _ _ fun t e=>absurd e (ht t)
 |sl a c k l es us hl hc hcm hs ji fA hd hlim hcell bZ hfull hown ih=>exact .sl _ _ fun t e=>(hown t e).1
 |agg us cs hn h ih=>exact .agg _ fun x hx=>by obtain⟨i,hi,rfl⟩:=List.getElem_of_mem hx;exact ih i (by omega) hi
 |tuple us cs hn h ih=>exact .tuple _ fun x hx=>by obtain⟨i,hi,rfl⟩:=List.getElem_of_mem hx;exact ih i (by omega) hi
 |ptr k off hk=>exact .ptr _ _ hk.1
 |ref a cs us hs hd hlim hcell bZ ih=>exact .data _ (.ref _ hd)
 |dO=>exact .data _ .dO
 |func f us cs hn h ih=>exact .func _ _ fun x hx=>by obtain⟨i,hi,rfl⟩:=List.getElem_of_mem hx;exact ih i (by omega) hi
 |nilFunc=>exact .data _ .nilFunc
 |iface t v x h ih=>exact .iface _ _ ih
 |nilIface=>exact .data _ .nilIface
 |cY k off n c es hk hc hcm fA hcap=>exact .cY _ _ _ _ hk.1
 |yield l hl=>exact .yield _ hl
theorem bG.cut{G:aF}{w:World}{v:Value}{x:AV}{nb nt nl:Nat}(h:bG G w v x)(hf:Fits nb nt nl x):bG {G with nb:=nb,nt:=nt,nl:=nl} w v x:=by
 induction h with
 |undef v=>exact .undef v
 |bool b=>exact .bool b
 |int k n=>exact .int k n
 |bQ b=>exact .bQ b
 |nan b h=>exact .nan b h
 |str s=>exact .str s
 |gZ a c k hc ht=>exact .gZ a c k hc ht
 |sl a c k l es us DL hc hcm hs ji fA yC hlim hcell bZ hfull hown ih=>
  refine .sl a c k l es us DL hc hcm hs ji fA yC hlim hcell (fun i hi j hj=>ih i hi j hj (.data _ (yC _ (List.getElem_mem hi) _ (List.getElem_mem hj)))) hfull (fun t ht=> ?_)
  obtain⟨h1,h2⟩:=hown t ht
  refine⟨?_,h2⟩
  cases hf with
  |data _ h=>cases h with|sl _ _ hk _=>exact absurd ht (hk t)
  |sl _ _ h=>exact h t ht
 |agg us cs hn h ih=>
  refine .agg us cs hn fun i h1 h2=>ih i h1 h2 ?_
  cases hf with
  |data _ h=>cases h with|agg _ h=>exact .data _ (h _ (List.getElem_mem h2))
  |agg _ h=>exact h _ (List.getElem_mem h2)
 |tuple us cs hn h ih=>
  refine .tuple us cs hn fun i h1 h2=>ih i h1 h2 ?_
  cases hf with
  |data _ h=>cases h with|tuple _ h=>exact .data _ (h _ (List.getElem_mem h2))
  |tuple _ h=>exact h _ (List.getElem_mem h2)
 |ptr k off hk=>
  cases hf with
  |data _ h=>cases h
  |ptr _ _ h=>exact .ptr k off ⟨h,hk.2⟩
 |ref a cs us hs yC hlim hcell bZ ih=>exact .ref a cs us hs yC hlim hcell fun j hj=>ih j hj (.data _ (yC _ (List.getElem_mem hj)))
 |dO=>exact .dO
 |func f us cs hn h ih=>
  refine .func f us cs hn fun i h1 h2=>ih i h1 h2 ?_
  cases hf with
  |data _ h=>cases h with|func _ _ h=>exact .data _ (h _ (List.getElem_mem h2))
  |func _ _ h=>exact h _ (List.getElem_mem h2)
 |nilFunc=>exact .nilFunc
 |iface t v x h ih=>
  refine .iface t v x (ih ?_)
  cases hf with
  |data _ h=>cases h with|iface _ _ h=>exact .data _ h
  |iface _ _ h=>exact h
 |nilIface=>exact .nilIface
 |cY k off n c es hk hc hcm fA hcap=>
  cases hf with
  |data _ h=>cases h
  |cY _ _ _ _ h=>exact .cY k off n c es ⟨h,hk.2⟩ hc hcm fA hcap
 |yield l hl=>
  cases hf with
  |data _ h=>cases h
  |yield _ h=>exact .yield l h
theorem Fits.mono{nb nt nl VH R6 nl':Nat}{x:AV}(h:Fits nb nt nl x)(h1:nb≤VH)(h2:nt≤R6)(h3:nl≤nl'):Fits VH R6 nl' x:=by
 induction h with
 |data x h=>exact .data x h
 |sl k l h=>exact .sl k l fun t e=>Nat.lt_of_lt_of_le (h t e) h2
 |agg cs h ih=>exact .agg cs ih
 |tuple cs h ih=>exact .tuple cs ih
 |ptr k off h=>exact .ptr k off (by omega)
 |func f cs h ih=>exact .func f cs ih
 |iface t x h ih=>exact .iface t x ih
 |cY k off n es h=>exact .cY k off n es (by omega)
 |yield l h=>exact .yield l (by omega)
end Go.Aa
namespace Go.Aa
inductive dX where
 |t(n:Nat)
 |c(v:AV)
 deriving Inhabited
abbrev Env:=Nat→AV
def DM(T:Env)(d:Nat)(v:AV):Env:=fun i=>bif i==d then v else T i
theorem hO(T:Env)(d:Nat)(v:AV)(i:Nat):DM T d v i=if i=d then v else T i:=by
 unfold DM
 by_cases h:i=d
 ·rw[if_pos h,show(i==d)=true from by simpa using h];rfl
 ·rw[if_neg h,show(i==d)=false from by simpa using h];rfl
def ev(T:Env):dX→AV
 |.t n=>T n
 |.c v=>v
inductive CV where
 |int(k:IntKind)|bQ|str|bytes
 deriving DecidableEq
inductive FK where
 |i|b|s
 deriving DecidableEq
inductive NK where
 |sl|ptr|fn|SP
 deriving DecidableEq
inductive gy where
 |aE(x:dX)
 |pick(c a b:dX)
 |box(x:dX)
 |build(zero:List AV)(parts:List (Nat×Nat×dX))
 |bO(es:Nat)(xs:List dX)
 |eT(es:Nat)(xs:List dX)
 |load(agg:Bool)(n:Nat)(x:dX)
 |store(n:Nat)(x v:dX)
 |mz(x:dX)
 |bin(op:BinOp)(x y:dX)
 |rY(neg:Bool)(ks:List FK)(x y:dX)
 |Io(neg:Bool)(x y:dX)
 |mh(neg:Bool)(k:NK)(x:dX)
 |un(op:UnOp)(x:dX)
 |conv(c:CV)(x:dX)
 |iD(t:TypeId)(x:dX)
 |cV(f:FuncId)(caps:List dX)
 |slice(es:Nat)(x:dX)(lo hi mx:Option dX)
 |bn(off n:Nat)(x:dX)
 |yD(agg:Bool)(off n:Nat)(x:dX)
 |idx(es:Nat)(x i:dX)
 |idxs(x i:dX)
 |extract(x:dX)(i:Nat)
 |call(f:dX)(args:List dX)
 |c6(f:dX)(args:List dX)
 |len(str:Bool)(x:dX)
 |append(es bytes:Nat)(x y:dX)
 |dZ(es bytes:Nat)(x y:dX)
 |kI(es bytes:Nat)(zero:List AV)(n:dX)
 |fE(zero:List AV)(x:dX)
 |mm(max:Bool)(x y:dX)
 |panic(x:dX)
structure aK where
 dst:Option Nat
 op:gy
 guard:Option (Nat×Bool)
 deps:List Nat
inductive aD where
 |skip
 |region(ops:List aK)(draw:Bool)
 |seq(a b:aD)
 |cond(c:dX)(a b:aD)
 |block(id:Nat)(b:aD)
 |loop(b:aD)
 |exit(id:Nat)
 |ret
 |range(f:dX)(ps:List Nat)(assign body:aD)
inductive Ow where
 |tmp(t:Nat)
 |cell(t:Nat)(agg:Bool)(n:Nat)
structure aO where
 results:List Ow
 body:aD
 round:Bool:=false
structure jk where
 A:aO
 T:Env
 ps:List Nat
 assign:aD
 body:aD
 busy:Bool
 nb:Nat
 nt:Nat
 nl:Nat
structure Heap where
 boxes:List (List AV)
 toks:List Nat
 loops:List jk
def Heap.nil:Heap:=⟨[],[],[]⟩
inductive cZ where
 |ret(v:AV)
 |cS(v:AV)
inductive Out where
 |val(v:AV)(H:Heap)
 |cS(v:AV)(H:Heap)
def eW:AV→AV
 |.sl (.own _) l=>.sl .sh l
 |.sl .full l=>.sl .sh l
 |x=>x
def cC:AV→AV
 |.agg cs=>.agg (cs.map eW)
 |x=>eW x
def bz:AV→AV
 |.tuple cs=>.tuple (cs.map cC)
 |x=>cC x
def bI:AV→Bool
 |.bool _|.int .. |.bQ _|.nan|.str _|.dO|.nilFunc|.nilIface=>true
 |.sl k _=>match k with|.own _|.nil=>false|_=>true
 |.ref _=>true
 |_=>false
def sJ:AV→Bool
 |.agg cs=>cs.all bI
 |.func _ cs=>cs.all bI
 |x=>bI x
def fH:AV→Bool
 |.iface _ v=>sJ v
 |x=>sJ x
def bK:AV→Bool
 |.tuple cs=>cs.all fH
 |x=>fH x
def mA:AV→Bool
 |.undef|.agg _|.tuple _=>false
 |_=>true
def cF(n:Nat):AV→Bool
 |.undef|.tuple _=>false
 |.agg cs=>cs.length==n
 |_=>n==1
def bP(a b:Option Nat):Option Ordering:=match a,b with|some x,some y=>FloatKind.f64.format.order x y|_,_=>none
def oN(f:Nat→Nat→Option Nat)(a b:Option Nat):Option AV:=match a,b with
 |some x,some y=>match f x y with|some z=>some (.bQ z)|none=>some .nan
 |_,_=>some .nan
def kW(op:BinOp)(a b:Option Nat):Option AV:=
 match op with
 |.eql=>some (.bool (bP a b==some .eq))
 |.neq=>some (.bool (bP a b !=some .eq))
 |.lss=>some (.bool (bP a b==some .lt))
 |.leq=>some (.bool (bP a b==some .lt||bP a b==some .eq))
 |.gtr=>some (.bool (bP a b==some .gt))
 |.geq=>some (.bool (bP a b==some .gt||bP a b==some .eq))
 |.add=>oN FloatKind.f64.format.add a b
 |.sub=>oN FloatKind.f64.format.sub a b
 |.mul=>oN FloatKind.f64.format.mul a b
 |.quo=>oN FloatKind.f64.format.div a b
 |_=>none
def jD(op:BinOp)(k:IntKind)(a b:Int):Option AV:=
 match op with
 |.add=>some (.int k (k.wrap (a+b)))
 |.sub=>some (.int k (k.wrap (a-b)))
 |.mul=>some (.int k (k.wrap (a*b)))
 |.quo=>if b=0 then none else some (.int k (k.wrap (a.tdiv b)))
 |.rem=>if b=0 then none else some (.int k (a.tmod b))
 |.eql=>some (.bool (a==b))
 |.neq=>some (.bool (a !=b))
 |.lss=>some (.bool (decide (a<b)))
 |.leq=>some (.bool (decide (a≤b)))
 |.gtr=>some (.bool (decide (b<a)))
 |.geq=>some (.bool (decide (b≤a)))
 |.and=>some (.int k (k.wrap (BitVec.ofInt k.bits a&&&BitVec.ofInt k.bits b).toNat))
 |.or=>some (.int k (k.wrap (BitVec.ofInt k.bits a|||BitVec.ofInt k.bits b).toNat))
 |.xor=>some (.int k (k.wrap (BitVec.ofInt k.bits a^^^BitVec.ofInt k.bits b).toNat))
 |.andNot=>some (.int k (k.wrap (BitVec.ofInt k.bits a&&& ~~~BitVec.ofInt k.bits b).toNat))
 |_=>none
def pY(op:BinOp)(k:IntKind)(a b:Int):Option AV:=
 match op with
 |.shl=>if b<0 then none else some (.int k (k.wrap (a*2^(min b.toNat k.bits))))
 |.shr=>if b<0 then none else some (.int k (a.fdiv (2^(min b.toNat k.bits))))
 |_=>none
def mB(op:BinOp)(a b:List UInt8):Option AV:=
 match op with
 |.add=>if a.length+b.length≤4611686018427387904 then some (.str (a++b))else none
 |.eql=>some (.bool (a==b))
 |.neq=>some (.bool (!(a==b)))
 |.lss=>some (.bool (Op.bytesLess a b))
 |.leq=>some (.bool (Op.bytesLess a b||a==b))
 |.gtr=>some (.bool (!(Op.bytesLess a b||a==b)))
 |.geq=>some (.bool (!Op.bytesLess a b))
 |_=>none
def pZ:FK→AV→AV→Option Bool
 |.i,.int k a,.int k' b=>if k=k' then some (a==b)else none
 |.b,.bool a,.bool b=>some (a==b)
 |.s,.str a,.str b=>some (a==b)
 |_,_,_=>none
def jq:List FK→List AV→List AV→Option Bool
 |[],[],[]=>some true
 |k::ks,x::xs,y::ys=>match pZ k x y,jq ks xs ys with
  |some a,some b=>some (a&&b)
  |_,_=>none
 |_,_,_=>none
def AG(neg:Bool)(ks:List FK):AV→AV→Option AV
 |.agg xs,.agg ys=>match jq ks xs ys with
  |some b=>some (.bool (if neg then !b else b))
  |none=>none
 |_,_=>none
def cG(op:BinOp):AV→AV→Option AV
 |.int k a,.int k' b=>
  match op with
  |.shl|.shr=>pY op k a b
  |_=>if k=k' then jD op k a b else none
 |.bQ a,.bQ b=>kW op (some a) (some b)
 |.nan,.bQ b=>kW op none (some b)
 |.bQ a,.nan=>kW op (some a) none
 |.nan,.nan=>kW op none none
 |.str a,.str b=>mB op a b
 |_,_=>none
def LA(neg:Bool):AV→AV→Option AV
 |.bool a,.bool b=>some (.bool (if neg then !(a==b)else a==b))
 |_,_=>none
def fF(neg:Bool):NK→AV→Option AV
 |.sl,.sl _ (_::_)=>some (.bool neg)
 |.sl,.cY .. =>some (.bool neg)
 |.ptr,.ptr .. =>some (.bool neg)
 |.ptr,.ref _=>some (.bool neg)
 |.ptr,.dO=>some (.bool !neg)
 |.fn,.func .. =>some (.bool neg)
 |.fn,.nilFunc=>some (.bool !neg)
 |.SP,.iface .. =>some (.bool neg)
 |.SP,.nilIface=>some (.bool !neg)
 |_,_=>none
def SQ(op:UnOp):AV→Option AV
 |.bool b=>match op with|.not=>some (.bool !b)|_=>none
 |.int k n=>match op with|.neg=>some (.int k (k.wrap (0-n)))|_=>none
 |.bQ b=>match op with|.neg=>some (.bQ (Op.negFloat .f64 b))|_=>none
 |_=>none
def AH:AV→Option UInt8
 |.int .u8 n=>some (UInt8.ofNat n.toNat)
 |_=>none
def p0:List AV→Option (List UInt8)
 |[]=>some []
 |x::xs=>match AH x,p0 xs with|some b,some bs=>some (b::bs)|_,_=>none
def eX:CV→AV→Option AV
 |.int k,.int _ n=>some (.int k (k.wrap n))
 |.bQ,.int _ n=>some (.bQ (FloatKind.f64.nearest n))
 |.str,.str s=>some (.str s)
 |.bytes,.sl _ l=>(p0 l).map .str
 |_,_=>none
def dA:Bool→AV→Option AV
 |true,.str s=>some (.int .i64 s.length)
 |false,.sl _ l=>some (.int .i64 l.length)
 |false,.cY _ _ n _=>some (.int .i64 n)
 |_,_=>none
def cc(es:Nat):AV→AV→Option AV
 |.sl _ l,.int _ i=>if 0≤i then match l[i.toNat]? with
   |some e=>if cF es e=true then some (.ref e.cells)else none
   |none=>none
  else none
 |.cY k off n es',.int _ i=>if(0≤i∧i<n)∧es'=es then some (.ptr k (off+i.toNat*es))else none
 |_,_=>none
def jK:AV→AV→Option AV
 |.str s,.int _ i=>if 0≤i then match s[i.toNat]? with
   |some b=>some (.int .u8 b.toNat)
   |none=>none
  else none
 |_,_=>none
def eP(m:Nat):Option AV→Nat→Option Nat
 |none,d=>some d
 |some (.int _ i),_=>if 0≤i∧i≤m then some i.toNat else none
 |some _,_=>none
def vH(s:List UInt8)(lo hi:Option AV):Option AV:=
 match eP s.length hi s.length with
 |none=>none
 |some h=>match eP h lo 0 with
  |none=>none
  |some l=>some (.str ((s.take h).drop l))
def pN(es:Nat)(xs:List AV)(lo hi:Option AV):Option AV:=
 match eP xs.length hi xs.length with
 |none=>none
 |some h=>match eP h lo 0 with
  |none=>none
  |some l=>match xs[l]? with
   |none=>some (.sl .sh [])
   |some e=>if cF es e=true then some (.sl .sh ((xs.take h).drop l))else none
def p4(es k off n:Nat)(lo hi:Option AV):Option AV:=
 match eP n hi n with
 |none=>none
 |some h=>match eP h lo 0 with
  |none=>none
  |some l=>if l<n then some (.cY k (off+l*es) (h-l) es)else none
def eR(es:Nat)(x:AV)(lo hi mx:Option AV):Option AV:=
 match x,mx with
 |.str s,none=>if es=0 then vH s lo hi else none
 |.sl k xs,none=>if es=0 then none else pN es xs lo hi
 |.sl k xs,some (.int k' m)=>if es=0 then none else if m=0 then(match eP 0 hi 1,eP 0 lo 0 with
      |some 0,some 0=>some (.sl .full [])
      |_,_=>none)else none
 |.cY k off n es',none=>if es=0∨es'≠es then none else p4 es k off n lo hi
 |_,_=>none
def BR(off n:Nat):AV→Option AV
 |.ptr k o=>some (.ptr k (o+off))
 |.ref cs=>if off+n≤cs.length then some (.ref ((cs.drop off).take n))else none
 |_=>none
def DU(agg:Bool)(off n:Nat):AV→Option AV
 |.agg cs=>if off+n≤cs.length then
   if agg then some (.agg ((cs.drop off).take n))else cs[off]?
  else none
 |_=>none
def p5(i:Nat):AV→Option AV
 |.tuple vs=>vs[i]?
 |_=>none
def dU(cells:List AV)(off:Nat):List AV→List AV
 |[]=>cells
 |x::xs=>dU (cells.set off x) (off+1) xs
def nX(cells:List AV):List (Nat×Nat×AV)→Option (List AV)
 |[]=>some cells
 |(off,n,v)::r=>if cF n v=true∧off+n≤cells.length then nX (dU cells off v.cells) r else none
def cE(es:Nat)(l:List AV):Bool:=l.all (cF es)
def dH(l:List AV):Bool:=l.all fun e=>e.cells.all bI
def SR(max:Bool):AV→AV→Option AV
 |.int k a,.int k' b=>if k=k' then some (.int k (if max then(if b>a then b else a)else(if b<a then b else a)))else none
 |_,_=>none
def ak(agg:Bool)(n:Nat)(H:Heap):AV→Option AV
 |.ref cs=>if cs.length=n then
   if agg then some (.agg cs)else match cs with|[x]=>some x|_=>none
  else none
 |.ptr k off=>match H.boxes[k]? with
  |some cs=>if off+n≤cs.length then
    if agg then some (.agg ((cs.drop off).take n))else if n=1 then cs[off]? else none
   else none
  |none=>none
 |_=>none
def aW(n:Nat)(H:Heap)(p v:AV):Option Heap:=
 match p with
 |.ptr k off=>match H.boxes[k]? with
  |some cs=>if off+n≤cs.length∧cF n v=true∧v.cells.all mA=true∧0<n then some {H with boxes:=H.boxes.set k (dU cs off v.cells)}else none
  |none=>none
 |_=>none
def uf(H:Heap)(v:AV):AV×Heap:=(.ptr H.boxes.length 0,{H with boxes:=H.boxes++[v.cells]})
def bw(es bytes:Nat)(H:Heap):AV→AV→Option (AV×Heap)
 |.sl k l,.sl _ m=>
  match m with
  |[]=>some (.sl k l,H)
  |m0::m'=>
  if(l.length+(m0::m').length)*bytes≤140737488355328∧cE es l=true∧cE es (m0::m')=true∧dH (m0::m')=true then
   match k with
   |.sh|.nil=>none
   |.full=>some (.sl (.own H.toks.length) (l++(m0::m')),{H with toks:=H.toks++[l.length+(m0::m').length]})
   |.own t=>if H.toks[t]?=some l.length then some (.sl (.own t) (l++(m0::m')),{H with toks:=H.toks.set t (l.length+(m0::m').length)})else none
  else none
 |_,_=>none
def eY(es:Nat):Nat→List AV→List AV
 |0,_=>[]
 |n+1,cs=>(if es=1 then cs.headD .undef else .agg (cs.take es))::eY es n (cs.drop es)
def cW(l:List AV):List AV:=l.flatMap AV.cells
def jr(es:Nat)(H:Heap)(l:List AV):Option (AV×Heap):=
 match l with
 |[]=>some (.sl .full [],H)
 |x::l'=>if cE es (x::l')=true∧dH (x::l')=true then some (.cY H.boxes.length 0 (x::l').length es,{H with boxes:=H.boxes++[cW (x::l')]})else none
def ef(es bytes:Nat)(H:Heap):AV→AV→Option (AV×Heap)
 |.sl k l,.sl _ m=>
  match m with
  |[]=>some (.sl (match k,l with|.full,[]=>.nil|k,_=>k) l,H)
  |m0::m'=>
   if k.tight=true∧l=[]∧(m0::m').length*bytes≤140737488355328∧cE es (m0::m')=true∧dH (m0::m')=true then some (.cY H.boxes.length 0 (m0::m').length es,{H with boxes:=H.boxes++[cW (m0::m')]})else none
 |.cY k off n es',.sl _ m=>
  match m with
  |[]=>some (.cY k off n es',H)
  |m0::m'=>
   match H.boxes[k]? with
   |some cs=>
    if es'=es∧off=0∧0<n∧cs.length=n*es∧cs.all bI=true∧(n+(m0::m').length)*bytes≤140737488355328∧cE es (m0::m')=true∧dH (m0::m')=true then
     some (.cY H.boxes.length 0 (n+(m0::m').length) es,{H with boxes:=H.boxes.set k []++[cs++cW (m0::m')]})
    else none
   |none=>none
 |_,_=>none
def p6(es bytes:Nat)(zero:List AV)(H:Heap):AV→Option (AV×Heap)
 |.int .i64 n=>if 0≤n∧n.toNat*bytes≤140737488355328∧zero.length=es∧0<es∧zero.all bI=true then
   if n=0 then some (.sl .sh [],H)else some (.cY H.boxes.length 0 n.toNat es,{H with boxes:=H.boxes++[(List.replicate n.toNat zero).flatten]})
  else none
 |_=>none
def jE(zero:List AV)(H:Heap):AV→Option Heap
 |.sl _ []=>some H
 |.cY k off n es=>match H.boxes[k]? with
  |some cs=>if off+n*es≤cs.length∧zero.length=es∧0<n∧0<es∧zero.all bI=true then some {H with boxes:=H.boxes.set k (dU cs off (List.replicate n zero).flatten)}else none
  |none=>none
 |_=>none
def DV(H:Heap):AV→Option AV
 |.cY k off n es=>match H.boxes[k]? with
  |some cs=>if off+n*es≤cs.length∧0≤n∧0<es∧cs.all bI=true then some (.sl .sh (eY es n (cs.drop off)))else none
  |none=>none
 |.sl .nil l=>some (.sl .sh l)
 |x=>some x
def DW(H:Heap):List AV→Option (List AV)
 |[]=>some []
 |x::xs=>match DV H x,DW H xs with
  |some y,some ys=>some (y::ys)
  |_,_=>none
def DX(H:Heap):AV→Option AV
 |.agg cs=>(DW H cs).map .agg
 |x=>DV H x
def vI(H:Heap):List AV→Option (List AV)
 |[]=>some []
 |x::xs=>match DX H x,vI H xs with
  |some y,some ys=>some (y::ys)
  |_,_=>none
def DY(H:Heap):AV→Option AV
 |.tuple vs=>(vI H vs).map .tuple
 |x=>DX H x
def yA(nb nt:Nat):AV→Bool
 |.ptr k _|.cY k _ _ _=>decide (k<nb)
 |.sl (.own t) _=>decide (t<nt)
 |.agg _|.tuple _|.func _ _|.iface _ _|.yield _=>false
 |_=>true
def Og(nb nt:Nat):AV→Bool
 |.agg cs=>cs.all (yA nb nt)
 |.func _ cs=>cs.all (yA nb nt)
 |x=>yA nb nt x
def rZ(nb nt:Nat):AV→Bool
 |.iface _ v=>Og nb nt v
 |x=>Og nb nt x
def within(nb nt:Nat):AV→Bool
 |.tuple cs=>cs.all (rZ nb nt)
 |x=>rZ nb nt x
end Go.Aa
namespace Go.Aa
inductive Key where
 |fn(f:FuncId)
 |yl(l:Nat)
abbrev bL:=Key→List AV→Heap→Option (cZ×Heap)
structure mj where
 F:FuncId→Option aO
 ext:FuncId→Option (List AV→Heap→Option (AV×Heap))
 vJ:FuncId→Bool
 vK:TypeId
inductive kX where
 |env(T:Env)(H:Heap)
 |cS(v:AV)(H:Heap)
inductive c7 where
 |c(c:aD)
 |blk(id:Nat)
 |lp(b:aD)
 |BS(l:Nat)
def cj(op:gy)(T:Env):Option AV:=
 match op with
 |.aE x=>some (ev T x)
 |.pick c a b=>match ev T c with
  |.bool true=>some (ev T a)
  |.bool false=>some (ev T b)
  |_=>none
 |.build zero parts=>(nX zero (parts.map fun p=>(p.1,p.2.1,ev T p.2.2))).map .agg
 |.bO es xs=>if cE es (xs.map fun x=>cC (ev T x))=true∧dH (xs.map fun x=>cC (ev T x))=true then some (.sl .full (xs.map fun x=>cC (ev T x)))else none
 |.mz x=>match ev T x with
  |.ptr k o=>some (.ptr k o)
  |.ref cs=>some (.ref cs)
  |.func f cs=>some (.func f cs)
  |_=>none
 |.bin op x y=>cG op (ev T x) (ev T y)
 |.rY neg ks x y=>AG neg ks (ev T x) (ev T y)
 |.Io neg x y=>LA neg (ev T x) (ev T y)
 |.mh neg k x=>fF neg k (ev T x)
 |.un op x=>SQ op (ev T x)
 |.conv c x=>eX c (ev T x)
 |.iD t x=>some (.iface t (ev T x))
 |.cV f caps=>some (.func f (caps.map (ev T)))
 |.slice es x lo hi mx=>eR es (ev T x) (lo.map (ev T)) (hi.map (ev T)) (mx.map (ev T))
 |.bn off n x=>BR off n (ev T x)
 |.yD agg off n x=>DU agg off n (ev T x)
 |.idx es x i=>cc es (ev T x) (ev T i)
 |.idxs x i=>jK (ev T x) (ev T i)
 |.extract x i=>p5 i (ev T x)
 |.len st x=>dA st (ev T x)
 |.mm mx x y=>SR mx (ev T x) (ev T y)
 |_=>none
def de(nb nt:Nat)(v:AV)(H:Heap):Heap:=
 let okB:=H.loops.all (fun r=>decide (r.nb≤nb))&&within nb H.toks.length v&&(H.boxes.take nb).all (·.all (rZ nb H.toks.length))
 let bs:=if okB then H.boxes.take nb else H.boxes
 let W1:=H.loops.all (fun r=>decide (r.nt≤nt))&&within bs.length nt v&&bs.all (·.all (rZ bs.length nt))
 {H with boxes:=bs,toks:=if W1 then H.toks.take nt else H.toks}
def AI(nl:Nat)(H:Heap):Option Heap:=
 match H.loops[nl]? with
 |some r=>if r.busy=false∧(H.loops.take nl).all (fun r=>decide (r.nl≤nl))=true∧H.boxes.all (·.all (rZ H.boxes.length H.toks.length))=true then some {H with loops:=H.loops.take nl}else none
 |none=>none
def AJ(nl:Nat)(H:Heap):Option Heap:=
 if nl<H.loops.length∧(H.loops.take nl).all (fun r=>decide (r.nl≤nl))=true∧H.boxes.all (·.all (rZ H.boxes.length H.toks.length))=true then some {H with loops:=H.loops.take nl}else none
def eD(call:bL)(g:FuncId)(az:List AV)(H:Heap):Option Out:=
 match call (.fn g) az H with
 |some (.ret v,H')=>some (.val (bz v) (de H.boxes.length H.toks.length (bz v) H'))
 |some (.cS v,H')=>some (.cS v (de H.boxes.length H.toks.length v H'))
 |none=>none
def dR(H:Heap)(v:AV):Option AV:=
 if bK (bz v)=true then some (bz v)else
 match DY H v with
 |some u=>if bK (bz u)=true then some (bz u)else none
 |none=>none
def en(call:bL)(fv:AV)(args:List AV)(H:Heap):Option Out:=
 match fv with
 |.func g caps=>
  if(args.all bK&&caps.all bI)=true then
   match call (.fn g) (args++caps) Heap.nil with
   |some (.ret v,H1)=>match dR H1 v with
    |some u=>some (.val u H)
    |none=>eD call g (args++caps) H
   |some (.cS v,_)=>if bK v=true then some (.cS v H)else none
   |none=>none
  else eD call g (args++caps) H
 |.yield l=>
  match call (.yl l) args H with
  |some (.ret v,H')=>some (.val v (de H.boxes.length H.toks.length v H'))
  |some (.cS v,H')=>some (.cS v (de H.boxes.length H.toks.length v H'))
  |none=>none
 |_=>none
def gv(call:bL)(fv:AV)(args:List AV)(H:Heap):Option Out:=
 match fv with
 |.func g caps=>
  if(args.all bK&&caps.all bI)=true then
   match call (.fn g) (args++caps) Heap.nil with
   |some (.ret v,_)=>if bK (bz v)=true then some (.val (bz v) H)else eD call g (args++caps) H
   |some (.cS v,_)=>if bK v=true then some (.cS v H)else none
   |none=>none
  else eD call g (args++caps) H
 |_=>none
def aR(call:bL)(op:gy)(T:Env)(H:Heap):Option Out:=
 match op with
 |.eT es xs=>match jr es H (xs.map fun x=>cC (ev T x))with
  |some r=>some (.val r.1 r.2)
  |none=>none
 |.dZ es b x y=>match ef es b H (ev T x) (ev T y)with
  |some r=>some (.val r.1 r.2)
  |none=>none
 |.kI es b z n=>match p6 es b z H (ev T n)with
  |some r=>some (.val r.1 r.2)
  |none=>none
 |.fE z x=>match jE z H (ev T x)with
  |some H'=>some (.val (.tuple []) H')
  |none=>none
 |.c6 f args=>gv call (ev T f) (args.map fun x=>bz (ev T x)) H
 |.box x=>match ev T x with
  |.undef=>none
  |.tuple _=>none
  |v=>some (.val (uf H v).1 (uf H v).2)
 |.load agg n x=>match ak agg n H (ev T x)with
  |some v=>some (.val v H)
  |none=>none
 |.store n x v=>match aW n H (ev T x) (ev T v)with
  |some H'=>some (.val .undef H')
  |none=>none
 |.append es b x y=>match bw es b H (ev T x) (ev T y)with
  |some r=>some (.val r.1 r.2)
  |none=>none
 |.panic x=>match ev T x with
  |.iface t v=>some (.cS (.iface t v) H)
  |_=>none
 |.call f args=>en call (ev T f) (args.map fun x=>bz (ev T x)) H
 |op=>match cj op T with
  |some v=>some (.val v H)
  |none=>none
def aU(T:Env)(d:Option Nat)(v:AV):Env:=
 match d with
 |some d=>DM T d v
 |none=>T
def cJ(o:aK)(T:Env):Option Bool:=
 match o.guard with
 |none=>some true
 |some (g,want)=>match T g with
  |.bool b=>some (b==want)
  |.tuple []=>some false
  |_=>none
def dx(call:bL):List aK→Env→Heap→Option kX
 |[],T,H=>some (.env T H)
 |o::r,T,H=>
  match cJ o T with
  |some true=>match aR call o.op T H with
   |some (.val v H')=>dx call r (aU T o.dst v) H'
   |some (.cS v H')=>some (.cS v H')
   |none=>none
  |some false=>dx call r (aU T o.dst (.tuple [])) H
  |none=>none
def kJ(id:Nat):List c7→Option (List c7)
 |.blk i::k=>if i=id then some k else kJ id k
 |_::k=>kJ id k
 |[]=>none
def LB(T:Env)(H:Heap):Ow→Option AV
 |.tmp t=>some (T t)
 |.cell t agg n=>ak agg n H (T t)
def mC(T:Env)(H:Heap):List Ow→Option (List AV)
 |[]=>some []
 |r::rs=>match LB T H r,mC T H rs with
  |some v,some vs=>some (v::vs)
  |_,_=>none
def p7(A:aO)(T:Env)(H:Heap):Option (cZ×Heap):=
 match mC T H A.results with
 |some [v]=>some (.ret v,H)
 |some vs=>some (.ret (.tuple vs),H)
 |none=>none
def ay(args:List AV):Env:=fun i=>(args[i]?).getD .undef
def mZ(T:Env):List Nat→List AV→Env
 |p::ps,v::vs=>mZ (DM T p v) ps vs
 |_,_=>T
noncomputable def calm(H:Heap)(o:Option Out):Option Out:=
 open Classical in
 match o with
 |some (.val v H')=>if H'=H then some (.val v H)else none
 |_=>none
theorem fO{H:Heap}{o:Option Out}{out:Out}(h:calm H o=some out):∃v,o=some (.val v H)∧out=.val v H:=by
 unfold calm at h
 split at h
 ·split at h
  ·rename_i e
   subst e
   exact⟨_,rfl,by simpa using h.symm⟩
  ·cases h
 ·cases h
theorem jL{H:Heap}{v:AV}:calm H (some (.val v H))=some (.val v H):=by
 unfold calm;simp
noncomputable def js(call:bL)(fv:AV)(args:List AV)(H:Heap):Option Out:=
 match fv with
 |.func g caps=>
  if(args.all bK&&caps.all bI)=true then
   match call (.fn g) (args++caps) Heap.nil with
   |some (.ret v,H1)=>match dR H1 v with
    |some u=>some (.val u H)
    |none=>none
   |some (.cS v,_)=>if bK v=true then some (.cS v H)else none
   |none=>none
  else calm H (eD call g (args++caps) H)
 |_=>none
noncomputable def ia(call:bL)(fv:AV)(args:List AV)(H:Heap):Option Out:=
 match fv with
 |.func g caps=>
  if(args.all bK&&caps.all bI)=true then
   match call (.fn g) (args++caps) Heap.nil with
   |some (.ret v,_)=>if bK (bz v)=true then some (.val (bz v) H)else none
   |some (.cS v,_)=>if bK v=true then some (.cS v H)else none
   |none=>none
  else calm H (eD call g (args++caps) H)
 |_=>none
noncomputable def aM(call:bL)(op:gy)(T:Env)(H:Heap):Option Out:=
 match op with
 |.call f args=>js call (ev T f) (args.map fun x=>bz (ev T x)) H
 |.c6 f args=>ia call (ev T f) (args.map fun x=>bz (ev T x)) H
 |op=>aR call op T H
noncomputable def dJ(call:bL):Nat→List aK→Option (Nat×AV)→Env→Heap→Option kX
 |_,[],none,T,H=>some (.env T H)
 |_,[],some (_,v),_,H=>some (.cS v H)
 |i,o::r,none,T,H=>
  match cJ o T with
  |some true=>match aM call o.op T H with
   |some (.val v H')=>dJ call (i+1) r none (aU T o.dst v) H'
   |some (.cS v H')=>dJ call (i+1) r (some (i,v)) T H'
   |none=>none
  |some false=>dJ call (i+1) r none (aU T o.dst (.tuple [])) H
  |none=>none
 |i,o::r,some (p,x),T,H=>
  if o.deps.contains p then dJ call (i+1) r (some (p,x)) T H else
  match cJ o T with
  |some true=>match aM call o.op T H with
   |some (.val v H')=>dJ call (i+1) r (some (p,x)) (aU T o.dst v) H'
   |_=>none
  |some false=>dJ call (i+1) r (some (p,x)) (aU T o.dst (.tuple [])) H
  |none=>none
def DZ:gy→Option AV
 |.box (.c z)=>match z with
  |.undef=>none
  |.tuple _=>none
  |z=>if z.cells.all bI=true then some z else none
 |_=>none
def kept(o:aK):Option AV:=match o.guard,o.dst with
 |none,some _=>DZ o.op
 |_,_=>none
def fU:Nat→List aK→List aK
 |_,[]=>[]
 |k,o::r=>match kept o with
  |some _=>{o with op:=.aE (.c (.ptr k 0))}::fU (k+1) r
  |none=>o::fU k r
def cx:List aK→List (List AV)
 |[]=>[]
 |o::r=>match kept o with
  |some z=>z.cells::cx r
  |none=>cx r
def iw(H:Heap)(cs:List (List AV)):Heap:=match cs with
 |[]=>H
 |c::r=>{H with boxes:=H.boxes++c::r}
theorem D1(H:Heap)(cs:List (List AV)):iw H cs={H with boxes:=H.boxes++cs}:=by
 cases cs with
 |nil=>simp[iw]
 |cons c r=>rfl
noncomputable def dK(call:bL)(draw:Bool)(ops:List aK)(T:Env)(H:Heap):Option kX:=
 if draw then dJ call 0 (fU H.boxes.length ops) none T (iw H (cx ops))else dx call ops T H
def gz(call:bL)(fv:AV)(A:aO)(T:Env)(ps:List Nat)(assign body:aD)(H:Heap):Option Out:=
 match fv with
 |.func g caps=>
  match en call (.func g caps) [.yield H.loops.length] {H with loops:=H.loops++[⟨A,T,ps,assign,body,false,H.boxes.length,H.toks.length,H.loops.length⟩]}with
  |some (.val v H')=>match AI H.loops.length H' with
   |some LC=>some (.val v LC)
   |none=>none
  |some (.cS v H')=>if bK v=true then match AJ H.loops.length H' with
    |some LC=>some (.cS v LC)
    |none=>none
   else none
  |none=>none
 |_=>none
theorem jY{call:bL}{fv:AV}{A:aO}{T:Env}{ps:List Nat}{a b:aD}{H:Heap}{out:Out}(h:gz call fv A T ps a b H=some out):∃g caps,fv=.func g caps∧
 ((∃v H3 H4,en call (.func g caps) [.yield H.loops.length] {H with loops:=H.loops++[⟨A,T,ps,a,b,false,H.boxes.length,H.toks.length,H.loops.length⟩]}=some (.val v H3)∧AI H.loops.length H3=some H4∧out=.val v H4)∨
  (∃v H3 H4,en call (.func g caps) [.yield H.loops.length] {H with loops:=H.loops++[⟨A,T,ps,a,b,false,H.boxes.length,H.toks.length,H.loops.length⟩]}=some (.cS v H3)∧bK v=true∧AJ H.loops.length H3=some H4∧out=.cS v H4)):=by
 unfold gz at h
 split at h
 ·refine⟨_,_,rfl,?_⟩
  split at h
  ·rename_i hc
   split at h
   ·rename_i hd
    simp only[Option.some.injEq]at h
    exact .inl ⟨_,_,_,hc,hd,h.symm⟩
   ·cases h
  ·rename_i hc
   split at h
   ·rename_i hv
    split at h
    ·rename_i hd
     simp only[Option.some.injEq]at h
     exact .inr ⟨_,_,_,hc,hv,hd,h.symm⟩
    ·cases h
   ·cases h
  ·cases h
 ·cases h
theorem p8{call:bL}{g:FuncId}{caps:List AV}{A:aO}{T:Env}{ps:List Nat}{a b:aD}{H H3 H4:Heap}{v:AV}
 (h1:en call (.func g caps) [.yield H.loops.length] {H with loops:=H.loops++[⟨A,T,ps,a,b,false,H.boxes.length,H.toks.length,H.loops.length⟩]}=some (.val v H3))(h2:AI H.loops.length H3=some H4):gz call (.func g caps) A T ps a b H=some (.val v H4):=by
 simp only[gz,h1,h2]
theorem p9{call:bL}{g:FuncId}{caps:List AV}{A:aO}{T:Env}{ps:List Nat}{a b:aD}{H H3 H4:Heap}{v:AV}
 (h1:en call (.func g caps) [.yield H.loops.length] {H with loops:=H.loops++[⟨A,T,ps,a,b,false,H.boxes.length,H.toks.length,H.loops.length⟩]}=some (.cS v H3))(hv:bK v=true)(h2:AJ H.loops.length H3=some H4):gz call (.func g caps) A T ps a b H=some (.cS v H4):=by
 simp only[gz,h1,hv,if_true,h2]
noncomputable def run(call:bL)(A:aO):Nat→List c7→Env→Heap→Option (cZ×Heap)
 |0,_,_,_=>none
 |_+1,[],T,H=>p7 A T H
 |n+1,.blk _::k,T,H=>run call A n k T H
 |n+1,.lp b::k,T,H=>run call A n (.c b::.lp b::k) T H
 |n+1,.BS l::k,T,H=>
  match H.loops[l]? with
  |some r=>if r.busy=true then none else run call A n k T {H with loops:=H.loops.set l {r with busy:=true}}
  |none=>none
 |n+1,.c c::k,T,H=>
  match c with
  |.skip=>run call A n k T H
  |.seq a b=>run call A n (.c a::.c b::k) T H
  |.cond x a b=>match ev T x with
   |.bool t=>run call A n (.c (if t then a else b)::k) T H
   |_=>none
  |.block id b=>run call A n (.c b::.blk id::k) T H
  |.loop b=>run call A n (.c b::.lp b::k) T H
  |.exit id=>match kJ id k with
   |some k'=>run call A n k' T H
   |none=>none
  |.ret=>if A.round then none else p7 A T H
  |.region ops draw=>match dK call draw ops T H with
   |some (.env T' H')=>run call A n k T' H'
   |some (.cS v H')=>some (.cS v,H')
   |none=>none
  |.range f ps assign body=>
   if A.round then none else
   match gz call (ev T f) A T ps assign body H with
   |some (.val _ LC)=>run call A n k T LC
   |some (.cS v LC)=>some (.cS v,LC)
   |none=>none
def ug:Option (cZ×Heap)→(vK:TypeId)→Option (cZ×Heap)
 |some (.ret _,H),_=>some (.ret (.int .i64 0),H)
 |some (.cS (.iface t (.agg [.int .i64 e])),H),s=>if t=s then some (.ret (.int .i64 e),H)else none
 |_,_=>none
noncomputable def cK(cfg:mj):Nat→bL
 |0=>fun _ _ _=>none
 |n+1=>fun key args H=>
  match key with
  |.fn f=>
   if cfg.vJ f=true then
    match args with
    |[.func g caps]=>ug (cK cfg n (.fn g) caps H) cfg.vK
    |_=>none
   else match cfg.ext f with
   |some g=>match g args H with
    |some r=>some (.ret r.1,r.2)
    |none=>none
   |none=>match cfg.F f with
    |some A=>run (cK cfg n) A n [.c A.body] (ay args) H
    |none=>none
  |.yl l=>
   match H.loops[l]? with
   |some r=>
    if args.length≠r.ps.length then none else
    match run (cK cfg n) {results:=[],body:=.skip,round:=true} n [.c r.assign,.BS l,.c r.body] (mZ r.T r.ps args) H with
    |some (.ret _,H')=>match H'.loops[l]? with
     |some r'=>some (.ret (.bool true),{H' with loops:=H'.loops.set l {r' with busy:=false}})
     |none=>none
    |some (.cS v,H')=>some (.cS v,H')
    |none=>none
   |none=>none
def Le(c c':bL):Prop:=∀k a H r,c k a H=some r→c' k a H=some r
theorem Le.refl(c:bL):Le c c:=fun _ _ _ _ h=>h
theorem Le.trans{a b c:bL}(h:Le a b)(k:Le b c):Le a c:=fun _ _ _ _ x=>k _ _ _ _ (h _ _ _ _ x)
theorem eZ{c c':bL}(h:Le c c'){g az H r}(e:eD c g az H=some r):eD c' g az H=some r:=by
 unfold eD at*
 split at e
 ·rename_i v H' hc;rw[h _ _ _ _ hc];exact e
 ·rename_i v H' hc;rw[h _ _ _ _ hc];exact e
 ·cases e
theorem mD{c c':bL}(h:Le c c'){fv args H r}(e:en c fv args H=some r):en c' fv args H=some r:=by
 unfold en at*
 split at e
 ·split at e
  ·rename_i hd
   simp only[hd,if_true]
   split at e
   ·rename_i v H1 hc
    rw[h _ _ _ _ hc]
    simp only
    split at e
    ·exact e
    ·exact eZ h e
   ·rename_i v _ hc;rw[h _ _ _ _ hc];exact e
   ·cases e
  ·rename_i hd
   simp only[hd,if_false]
   exact eZ h e
 ·split at e
  ·rename_i v H' hc;simp only[h _ _ _ _ hc];exact e
  ·rename_i v H' hc;simp only[h _ _ _ _ hc];exact e
  ·cases e
 ·cases e
theorem yE{c c':bL}(h:Le c c'){fv args H r}(e:gv c fv args H=some r):gv c' fv args H=some r:=by
 unfold gv at*
 split at e
 ·split at e
  ·rename_i hd
   simp only[hd,if_true]
   split at e
   ·rename_i v _ hc
    rw[h _ _ _ _ hc]
    simp only
    split at e
    ·rename_i oO;rw[if_pos oO];exact e
    ·rename_i oO;rw[if_neg oO];exact eZ h e
   ·rename_i v _ hc;rw[h _ _ _ _ hc];exact e
   ·cases e
  ·rename_i hd
   simp only[hd,if_false]
   exact eZ h e
 ·cases e
theorem jt{c c':bL}(h:Le c c'){op T H r}(e:aR c op T H=some r):aR c' op T H=some r:=by
 cases op<;>first|exact e|exact mD h e|exact yE h e
theorem ju{c c':bL}(h:Le c c'):∀{ops T H r},dx c ops T H=some r→dx c' ops T H=some r
 |[],_,_,_,e=>e
 |o::ops,T,H,r,e=>by
  simp only[dx]at*
  split at e
  ·rename_i hw
   split at e
   ·rename_i v H' ho;rw[jt h ho];exact ju h e
   ·rename_i v H' ho;rw[jt h ho];exact e
   ·cases e
  ·exact ju h e
  ·cases e
theorem yF{c c':bL}(h:Le c c'){fv args H r}(e:js c fv args H=some r):js c' fv args H=some r:=by
 unfold js at*
 split at e
 ·split at e
  ·rename_i hd
   simp only[hd,if_true]
   split at e
   ·rename_i v _ hc;rw[h _ _ _ _ hc];exact e
   ·rename_i v _ hc;rw[h _ _ _ _ hc];exact e
   ·cases e
  ·rename_i hd
   simp only[hd,if_false]
   obtain⟨v,h1,rfl⟩:=fO e
   rw[eZ h h1]
   exact jL
 ·cases e
theorem vL{c c':bL}(h:Le c c'){fv args H r}(e:ia c fv args H=some r):ia c' fv args H=some r:=by
 unfold ia at*
 split at e
 ·split at e
  ·rename_i hd
   simp only[hd,if_true]
   split at e
   ·rename_i v _ hc;rw[h _ _ _ _ hc];exact e
   ·rename_i v _ hc;rw[h _ _ _ _ hc];exact e
   ·cases e
  ·rename_i hd
   simp only[hd,if_false]
   obtain⟨v,h1,rfl⟩:=fO e
   rw[eZ h h1]
   exact jL
 ·cases e
theorem fh{c c':bL}(h:Le c c'){op T H r}(e:aM c op T H=some r):aM c' op T H=some r:=by
 cases op<;>first|exact e|exact jt h e|exact yF h e|exact vL h e
theorem eO{c c':bL}(h:Le c c'):∀{i ops p T H r},dJ c i ops p T H=some r→dJ c' i ops p T H=some r
 |_,[],none,_,_,_,e=>e
 |_,[],some _,_,_,_,e=>e
 |i,o::ops,none,T,H,r,e=>by
  simp only[dJ]at*
  split at e
  ·split at e
   ·rename_i v H' ho;rw[fh h ho];exact eO h e
   ·rename_i v H' ho;rw[fh h ho];exact eO h e
   ·cases e
  ·exact eO h e
  ·cases e
 |i,o::ops,some (p,x),T,H,r,e=>by
  simp only[dJ]at*
  split at e
  ·rename_i hd;simp only[hd,if_true];exact eO h e
  ·rename_i hd
   simp only[hd,if_false]
   split at e
   ·split at e
    ·rename_i v H' ho;rw[fh h ho];exact eO h e
    ·cases e
   ·exact eO h e
   ·cases e
theorem iE{c c':bL}(h:Le c c'){d ops T H r}(e:dK c d ops T H=some r):dK c' d ops T H=some r:=by
 unfold dK at*
 cases d with
 |true=>exact eO h e
 |false=>exact ju h e
theorem jv{c c':bL}(h:Le c c'){fv A T ps a b H r}(e:gz c fv A T ps a b H=some r):gz c' fv A T ps a b H=some r:=by
 obtain⟨g,caps,rfl,⟨v,H3,H4,h1,h2,rfl⟩|⟨v,H3,H4,h1,h2,h3,rfl⟩⟩:=jY e
 ·exact p8 (mD h h1) h2
 ·exact p9 (mD h h1) h2 h3
theorem gQ{c c':bL}(h:Le c c')(A:aO):∀(n m:Nat)(k:List c7)(T:Env)(H:Heap)(r:cZ×Heap),n≤m→run c A n k T H=some r→run c' A m k T H=some r:=by
 intro n
 induction n with
 |zero=>intro m k T H r _ e;cases k<;>simp[run]at e
 |succ n ih=>
  intro m k T H r hm e
  obtain⟨m,rfl⟩:∃q,m=q+1:=⟨m-1,by omega⟩
  have hm':n≤m:=by omega
  cases k with
  |nil=>exact e
  |cons it k=>
   cases it with
   |blk id=>exact ih m _ _ _ _ hm' e
   |lp b=>exact ih m _ _ _ _ hm' e
   |BS l=>
    simp only[run]at*
    split at e
    ·split at e
     ·cases e
     ·rename_i hb
      simp only[hb,Bool.false_eq_true,if_false]
      exact ih m _ _ _ _ hm' e
    ·cases e
   |c c0=>
    cases c0 with
    |skip=>exact ih m _ _ _ _ hm' e
    |seq a b=>exact ih m _ _ _ _ hm' e
    |cond x a b=>
     simp only[run]at*
     split at e
     ·exact ih m _ _ _ _ hm' e
     ·cases e
    |block id b=>exact ih m _ _ _ _ hm' e
    |loop b=>exact ih m _ _ _ _ hm' e
    |exit id=>
     simp only[run]at*
     split at e
     ·exact ih m _ _ _ _ hm' e
     ·cases e
    |ret=>exact e
    |region ops d=>
     simp only[run]at*
     split at e
     ·rename_i hr;rw[iE h hr];exact ih m _ _ _ _ hm' e
     ·rename_i hr;rw[iE h hr];exact e
     ·cases e
    |range f ps a b=>
     simp only[run]at*
     split at e
     ·cases e
     ·rename_i hro
      simp only[hro]
      split at e
      ·rename_i hr
       rw[jv h hr]
       exact ih m _ _ _ _ hm' e
      ·rename_i hr
       rw[jv h hr]
       exact e
      ·cases e
theorem jZ(cfg:mj):∀n,Le (cK cfg n) (cK cfg (n+1)):=by
 intro n
 induction n with
 |zero=>intro k a H r e;simp[cK]at e
 |succ n ih=>
  intro k a H r e
  rw[cK]at e⊢
  cases k with
  |fn f=>
   simp only at e⊢
   split at e
   ·rename_i ht
    simp only[ht,if_true]
    split at e
    ·rename_i g caps
     revert e
     cases hc:cK cfg n (.fn g) caps H with
     |none=>intro e;simp[ug]at e
     |some x=>intro e;rw[ih _ _ _ _ hc];exact e
    ·cases e
   ·rename_i ht
    simp only[ht,if_false]
    split at e
    ·exact e
    ·split at e
     ·exact gQ ih _ _ _ _ _ _ _ (Nat.le_succ n) e
     ·cases e
  |yl l=>
   simp only at e⊢
   split at e
   ·rename_i rr hl
    split at e
    ·cases e
    ·rename_i hb
     simp only[hb,if_false]
     split at e
     ·rename_i hr;rw[gQ ih _ _ _ _ _ _ _ (Nat.le_succ n) hr];exact e
     ·rename_i hr;rw[gQ ih _ _ _ _ _ _ _ (Nat.le_succ n) hr];exact e
     ·cases e
   ·cases e
theorem dy(cfg:mj){n m:Nat}(h:n≤m):Le (cK cfg n) (cK cfg m):=by
 induction h with
 |refl=>exact .refl _
 |step _ ih=>exact ih.trans (jZ cfg _)
end Go.Aa
namespace Go.Aa
def Ip:Value→Option AV
 |.bool b=>some (.bool b)
 |.int k n=>some (.int k n)
 |.float .f64 b=>some (.bQ b)
 |.string s=>some (.str s.data.toList)
 |.pointer none=>some .dO
 |.slice none 0 0=>some (.sl .full [])
 |.nilFunc=>some .nilFunc
 |.nilIface=>some .nilIface
 |_=>none
def vM:List Value→Option (List AV)
 |[]=>some []
 |v::vs=>match Ip v,vM vs with|some x,some xs=>some (x::xs)|_,_=>none
def R7:Value→Option AV
 |.agg cs=>(vM cs.toList).map .agg
 |v=>Ip v
def dz:Operand→Option dX
 |.tmp t=>some (.t t)
 |.const v=>(R7 v).map .c
 |.func f=>some (.c (.func f []))
 |.global _=>some (.c .undef)
def iU:List Operand→Option (List dX)
 |[]=>some []
 |x::xs=>match dz x,iU xs with|some y,some ys=>some (y::ys)|_,_=>none
def cOpt:Option Operand→Option (Option dX)
 |none=>some none
 |some x=>(dz x).map some
def uj(P:Program)(t:TypeId):Option Bool:=
 match P.underlying t with
 |some (.struct _)=>some true
 |some (.array _ _)=>some true
 |some _=>some false
 |none=>none
def eU(P:Program)(t:TypeId):Option Nat:=(P.info? t).map (·.size)
def lR(P:Program):Nat→List Field→Option (List FK)
 |_,[]=>some []
 |i,f::fs=>if f.offset=i∧f.name≠ "_" then
    match P.underlying f.type,lR P (i+1) fs with
    |some (.int _),some ks=>some (.i::ks)
    |some .bool,some ks=>some (.b::ks)
    |some .string,some ks=>some (.s::ks)
    |_,_=>none
  else none
def uk(P:Program)(t:TypeId):Option (List FK):=
 match P.underlying t with
 |some (.struct fs)=>if P.stoodInHeld t=false∧P.eqGuardType P.depth t=false then lR P 0 fs.toList else none
 |_=>none
def KF(P:Program)(t:TypeId):Bool:=
 match P.underlying t with
 |some (.int _)=>true
 |some (.float .f64)=>true
 |some .string=>true
 |_=>false
def D2(P:Program)(t:TypeId):Bool:=
 match P.underlying t with
 |some .bool=>true
 |_=>false
def D3(P:Program)(t:TypeId)(y:Operand):Option NK:=
 match P.underlying t,y with
 |some (.slice _),.const (.slice none _ _)=>some .sl
 |some (.pointer _),.const (.pointer none)=>some .ptr
 |some (.func ..),.const .nilFunc=>some .fn
 |some (.interface _),.const .nilIface=>some .SP
 |_,_=>none
def nY(P:Program)(s:TypeId)(f:Nat):Option Field:=
 match P.underlying s with
 |some (.struct fs)=>fs[f]?
 |_=>none
def nZ(P:Program)(place:Nat→Option (Nat×Nat)):List (Nat×Operand)→Option (List (Nat×Nat×dX))
 |[]=>some []
 |(i,x)::r=>match place i,dz x,nZ P place r with
  |some (o,n),some y,some ys=>some ((o,n,y)::ys)
  |_,_,_=>none
def zeroCells(P:Program)(t:TypeId):Option (List AV):=
 match P.info? t with
 |some i=>match i.zero with
  |some z=>vM z.cells.toList
  |none=>none
 |none=>none
def uo(P:Program)(t:TypeId):Option (Nat→Option (Nat×Nat)):=
 match P.underlying t with
 |some (.struct fs)=>match fs.toList.mapM (fun f=>(P.info? f.type).map fun i=>(f.offset,i.size))with
  |some ps=>some fun i=>ps[i]?
  |none=>none
 |some (.array _ e)=>match P.info? e with
  |some ie=>some fun i=>some (i*ie.size,ie.size)
  |none=>none
 |_=>none
def Iq(P:Program)(op:BinOp)(t:TypeId)(x y:dX):Option gy:=
 if KF P t=true then some (.bin op x y)else
 if D2 P t=true then(match op with
  |.eql=>some (.Io false x y)
  |.neq=>some (.Io true x y)
  |_=>none)else
 match op,uk P t with
 |.eql,some ks=>some (.rY false ks x y)
 |.neq,some ks=>some (.rY true ks x y)
 |_,_=>none
def gK:Operand→Operand→Bool
 |.tmp a,.tmp b=>a==b
 |.const (.int k a),.const (.int k' b)=>k==k'&&a==b
 |_,_=>false
theorem yG:∀{x y:Operand},gK x y=true→x=y
 |.tmp a,.tmp b,h=>by simp only[gK,beq_iff_eq]at h;rw[h]
 |.const x,y,h=>by
  cases y<;>first|(cases x<;>simp[gK]at h;done)|skip
  rename_i y
  cases x<;>cases y<;>simp_all[gK]
 |.tmp _,.const _,h=>by simp[gK]at h
 |.tmp _,.global _,h=>by simp[gK]at h
 |.tmp _,.func _,h=>by simp[gK]at h
 |.global _,y,h=>by simp[gK]at h
 |.func _,y,h=>by simp[gK]at h
def gL(P:Program)(mu:Bool)(o:Op):Option gy:=
 match o with
 |.move x=>(dz x).map .aE
 |.assign x=>(dz x).map .aE
 |.pick c a b=>match dz c,dz a,dz b with
  |some c,some a,some b=>some (.pick c a b)
  |_,_,_=>none
 |.alloc e=>match P.info? e with
  |some i=>match i.zero with
   |some z=>(R7 z).map fun v=>.box (.c v)
   |none=>none
  |none=>none
 |.box _ x=>(dz x).map .box
 |.build t parts=>match zeroCells P t,uo P t with
  |some z,some place=>(nZ P place parts.toList).map (.build z)
  |_,_=>none
 |.buildSlice t n parts=>match P.underlying t with
  |some (.slice e)=>match eU P e,iU (parts.toList.map (·.2))with
   |some es,some xs=>if parts.toList.map (·.1)=List.range n∧0<es∧n*es≤16777216∧(P.info? e).bind (·.zero)≠none∧((P.info? e).bind (·.zero)).any (fun z=>z.cells.size==es)=true then some (if mu=true then .eT es xs else .bO es xs)else none
   |_,_=>none
  |_=>none
 |.load t a=>match uj P t,eU P t,dz a with
  |some g,some n,some x=>some (.load g n x)
  |_,_,_=>none
 |.store t a v=>match eU P t,dz a,dz v with
  |some n,some x,some y=>some (.store n x y)
  |_,_,_=>none
 |.nilCheck x=>(dz x).map .mz
 |.binOp op t x y _=>match dz x,dz y with
  |some x,some y'=>match D3 P t y with
   |some k=>(match op with
    |.eql=>some (.mh false k x)
    |.neq=>some (.mh true k x)
    |_=>none)
   |none=>Iq P op t x y'
  |_,_=>none
 |.unOp op _ x=>(dz x).map (.un op)
 |.convert s d x=>match P.underlying s,P.underlying d,dz x with
  |some _,some (.int k),some x=>some (.conv (.int k) x)
  |some (.int _),some (.float .f64),some x=>some (.conv .bQ x)
  |some .string,some .string,some x=>some (.conv .str x)
  |some (.slice e),some .string,some x=>match P.underlying e with
   |some (.int .u8)=>some (.conv .bytes x)
   |_=>none
  |_,_,_=>none
 |.makeInterface t x=>match P.underlying t,dz x with
  |some (.interface _),_=>none
  |some _,some x=>some (.iD t x)
  |_,_=>none
 |.makeFunc (.func f) first caps=>if first.isEmpty=true then(iU caps.toList).map (.cV f)else none
 |.slice t x lo hi mx=>match dz x,cOpt lo,cOpt hi,cOpt mx with
  |some x,some lo,some hi,some mx=>match P.underlying t with
   |some .string=>some (.slice 0 x lo hi mx)
   |some (.slice e)=>match eU P e with
    |some es=>if es=0 then none else some (.slice es x lo hi mx)
    |none=>none
   |_=>none
  |_,_,_,_=>none
 |.fieldAddr s x f=>match nY P s f,dz x with
  |some f,some x=>match eU P f.type with
   |some n=>if n=0 then none else some (.bn f.offset n x)
   |none=>none
  |_,_=>none
 |.field s x f=>match nY P s f,dz x with
  |some f,some x=>match uj P f.type,eU P f.type with
   |some g,some n=>if g=false∧n≠1 then none else some (.yD g f.offset n x)
   |_,_=>none
  |_,_=>none
 |.indexAddr t x i=>match P.underlying t,dz x,dz i with
  |some (.slice e),some x,some i=>(eU P e).map fun es=>.idx es x i
  |_,_,_=>none
 |.index t x i=>match P.underlying t,dz x,dz i with
  |some .string,some x,some i=>some (.idxs x i)
  |_,_,_=>none
 |.extract x i=>(dz x).map fun x=>.extract x i
 |.call c=>match c.callee with
  |.value f=>match dz f,iU c.args.toList with
   |some f,some az=>some (if mu=true then .c6 f az else .call f az)
   |_,_=>none
  |.builtin .len=>match c.args.toList,c.argTypes.toList with
   |[x],[t]=>match P.underlying t,dz x with
    |some .string,some x=>some (.len true x)
    |some (.slice _),some x=>some (.len false x)
    |_,_=>none
   |_,_=>none
  |.builtin .append=>match c.args.toList,c.argTypes.toList with
   |[x,y],[t,u]=>match P.underlying t,P.underlying u,dz x,dz y with
    |some (.slice e),some (.slice _),some x,some y=>match P.info? e with
     |some i=>if 0<i.size∧0<i.bytes∧i.zero.any (fun z=>z.cells.size==i.size)=true then some (if mu=true then .dZ i.size i.bytes x y else .append i.size i.bytes x y)else none
     |none=>none
    |_,_,_,_=>none
   |_,_=>none
  |.builtin .clear=>match c.args.toList,c.argTypes.toList with
   |[x],[t]=>match P.underlying t,dz x with
    |some (.slice e),some x=>(zeroCells P e).map fun z=>.fE z x
    |_,_=>none
   |_,_=>none
  |.builtin .max=>match c.args.toList with
   |[x,y]=>match dz x,dz y with
    |some x,some y=>some (.mm true x y)
    |_,_=>none
   |_=>none
  |.builtin .min=>match c.args.toList with
   |[x,y]=>match dz x,dz y with
    |some x,some y=>some (.mm false x y)
    |_,_=>none
   |_=>none
  |_=>none
 |.makeSlice t n m=>if mu=true∧gK n m=true then(match P.underlying t,dz n with
   |some (.slice e),some n=>match P.info? e,zeroCells P e with
    |some i,some z=>if 0<i.size∧0<i.bytes∧i.zero.any (fun z=>z.cells.size==i.size)=true then some (.kI i.size i.bytes z n)else none
    |_,_=>none
   |_,_=>none)else none
 |.panic x=>(dz x).map .panic
 |_=>none
inductive DN where
 |pure|read|alloc|app|call|store|cS
 deriving DecidableEq
def bX:gy→DN
 |.box _=>.alloc
 |.eT .. =>.alloc
 |.kI .. =>.alloc
 |.dZ .. =>.store
 |.fE .. =>.store
 |.c6 .. =>.call
 |.load .. =>.read
 |.store .. =>.store
 |.append .. =>.app
 |.call .. =>.call
 |.panic _=>.cS
 |_=>.pure
def ur:DN→DN→Bool
 |.cS,_=>false
 |_,.cS=>false
 |.pure,_=>true
 |_,.pure=>true
 |.read,.read=>true
 |.read,.app=>true
 |.app,.read=>true
 |.read,.call=>true
 |.call,.read=>true
 |.call,.call=>true
 |.alloc,.app=>true
 |.read,.alloc=>true
 |.app,.alloc=>true
 |_,_=>false
def ey:dX→List Nat
 |.t n=>[n]
 |.c _=>[]
def uu:Option dX→List Nat
 |some x=>ey x
 |none=>[]
def dP:gy→List Nat
 |.aE x|.box x|.load _ _ x|.mz x|.un _ x|.conv _ x|.iD _ x|.bn _ _ x|.yD _ _ _ x|.extract x _|.len _ x|.panic x|.mh _ _ x=>ey x
 |.pick c a b=>ey c++ey a++ey b
 |.build _ ps=>ps.flatMap fun p=>ey p.2.2
 |.bO _ xs=>xs.flatMap ey
 |.eT _ xs=>xs.flatMap ey
 |.kI _ _ _ x=>ey x
 |.fE _ x=>ey x
 |.c6 f xs=>ey f++xs.flatMap ey
 |.store _ x y|.bin _ x y|.rY _ _ x y|.Io _ x y|.idx _ x y|.idxs x y|.append _ _ x y|.dZ _ _ x y|.mm _ x y=>ey x++ey y
 |.cV _ xs=>xs.flatMap ey
 |.slice _ x lo hi mx=>ey x++uu lo++uu hi++uu mx
 |.call f xs=>ey f++xs.flatMap ey
def aK.use(o:aK):List Nat:=dP o.op++(match o.guard with|some (g,_)=>[g]|none=>[])
def gA(a b:aK):Bool:=
 ur (bX a.op) (bX b.op)&&
 (match a.dst with|some d=> !b.use.contains d&&b.dst !=some d|none=>true)&&
 (match b.dst with|some d=> !a.use.contains d|none=>true)
def uw(ops:List aK):Bool:=
 ops.zipIdx.all fun b=>b.1.deps.all (fun j=>decide (j<b.2))&&ops.zipIdx.all fun a=>decide (b.2≤a.2)||b.1.deps.contains a.2||gA a.1 b.1
def qa:dX→Bool
 |.t _=>true
 |.c v=>match v with|.ptr .. =>false|.cY .. =>false|_=>true
def m5(o:aK):Bool:=match o.op with
 |.store _ x _=>qa x
 |.dZ _ _ x _=>qa x
 |.fE _ x=>qa x
 |_=>true
def j0(ops:List aK):Bool:=uw (fU 0 ops)&&ops.all m5
def dB(e:Edge):Bool:=match e.ground with|.textOnly _=>false|.gcOnly _=>false|_=>true
def qb(acc:List (List Nat))(es:List Edge):List Nat:=
 (es.filter dB).foldl (fun s e=>(e.on::acc.getD e.on []).foldl (fun s x=>if s.contains x then s else x::s) s) []
def isLit:Op→Bool
 |.buildSlice .. =>true
 |_=>false
def Ox(ops:Array Oper)(d:Nat):Bool:=ops.toList.any fun o=>match o.op with
 |.move x=>(match dz x with|some (.t e)=>e==d|_=>false)
 |.assign x=>(match dz x with|some (.t e)=>e==d|_=>false)
 |_=>false
def handed(ops:Array Oper)(d:Nat):Bool:=ops.toList.any fun o=>match o.op with
 |.call c=>(match c.callee with|.value _=>c.args.toList.any fun x=>(match dz x with|some (.t e)=>e==d|_=>false)|_=>false)
 |_=>false
def KG(ops:Array Oper)(o:Oper):Bool:=isLit o.op&&(match o.dst with|some d=> !Ox ops d&& !handed ops d|none=>true)
def sK(P:Program)(mu:Bool)(nt:Nat)(ops:Array Oper)(acc:List (List Nat))(o:Oper):Option aK:=
 if o.dst.all (fun d=>decide (d<nt))=false then none else
 match gL P (mu&& !KG ops o) o.op with
 |none=>none
 |some op=>match o.guard with
  |none=>some {dst:=o.dst,op,guard:=none,deps:=qb acc o.after.toList}
  |some (j,want)=>match(ops[j]?).bind (·.dst)with
   |some g=>some {dst:=o.dst,op,guard:=some (g,want),deps:=qb acc o.after.toList}
   |none=>none
def kY(P:Program)(mu:Bool)(nt:Nat)(ops:Array Oper):List (List Nat)→List Oper→Option (List aK)
 |_,[]=>some []
 |acc,o::r=>match sK P mu nt ops acc o with
  |none=>none
  |some a=>match kY P mu nt ops (acc++[a.deps]) r with
   |some az=>some (a::az)
   |none=>none
def aK.bare(o:aK):aK:={o with deps:=[]}
def eB(P:Program)(mu:Bool)(nt:Nat):Code→Option aD
 |.skip=>some .skip
 |.region _ ops draw=>match kY P mu nt ops [] ops.toList with
  |some az=>if draw=true∧j0 az=false then none else some (.region (if draw=true then az else az.map aK.bare) draw)
  |none=>none
 |.seq a b=>match eB P mu nt a,eB P mu nt b with
  |some a,some b=>some (.seq a b)
  |_,_=>none
 |.cond c a b=>match dz c,eB P mu nt a,eB P mu nt b with
  |some c,some a,some b=>some (.cond c a b)
  |_,_,_=>none
 |.block id b=>(eB P mu nt b).map (.block id)
 |.loop b=>(eB P mu nt b).map .loop
 |.exit id=>some (.exit id)
 |.ret=>some .ret
 |.rangeFunc f ps assign body=>match dz f,eB P mu nt assign,eB P mu nt body with
  |some f,some a,some b=>if ps.toList.all (fun d=>decide (d<nt))=true then some (.range f ps.toList a b)else none
  |_,_,_=>none
 |_=>none
def qc(P:Program):List ResultVar→Option (List Ow)
 |[]=>some []
 |.tmp t::r=>(qc P r).map (.tmp t::·)
 |.cell t ty::r=>match uj P ty,eU P ty,qc P r with
  |some g,some n,some rs=>some (.cell t g n::rs)
  |_,_,_=>none
def sL(P:Program)(mu:Bool)(f:Func):Option aO:=
 match f.body with
 |some c=>match eB P mu f.ntmps c,qc P f.results.toList with
  |some b,some rs=>if(f.name== "runtime.NumGoroutine")=true then none else some {results:=rs,body:=b}
  |_,_=>none
 |none=>none
end Go.Aa
namespace Go.Aa
open Go.RowKit
variable{P:Program}{G G':aF}{w w':World}
structure Grow(G:aF)(w:World)(G':aF)(w':World):Prop where
 g:G'={G with lim:=G'.lim}
 os:w'.os=w.os
 tape:w'.tape=w.tape
 output:w'.output=w.output
 size:w.heap.size≤w'.heap.size
 heap:∀b,b<w.heap.size→w'.heap[b]?=w.heap[b]?∧G'.lim b=G.lim b
 new:∀b,w'.heap.size≤b→G'.lim b=0
def pH(G:aF)(w:World):Prop:=∀b,w.heap.size≤b→G.lim b=0
theorem Grow.refl(h:pH G w):Grow G w G w:=⟨rfl,rfl,rfl,rfl,Nat.le_refl _,fun _ _=>⟨rfl,rfl⟩,h⟩
theorem Grow.base(h:Grow G w G' w'):pH G' w':=h.new
theorem Grow.trans{G1 G2 G3:aF}{w1 w2 w3:World}(h:Grow G1 w1 G2 w2)(k:Grow G2 w2 G3 w3):Grow G1 w1 G3 w3 where
 g:=by rw[k.g,h.g]
 os:=k.os.trans h.os
 tape:=k.tape.trans h.tape
 output:=k.output.trans h.output
 size:=Nat.le_trans h.size k.size
 heap:=fun b hb=>⟨(k.heap b (Nat.lt_of_lt_of_le hb h.size)).1.trans (h.heap b hb).1,(k.heap b (Nat.lt_of_lt_of_le hb h.size)).2.trans (h.heap b hb).2⟩
 new:=k.new
theorem Grow.step(h:Grow G w G' w')(hb:pH G w):Step G w G' w':=by
 have e:=h.g
 refine⟨h.os,h.tape,h.output,h.size,fun b=> ?_,fun b off ho=> ?_,by rw[e];exact Nat.le_refl _,fun k _=>by rw[e],fun k _=>by rw[e],fun k hk=>.inl ⟨k,by rw[e]at hk;exact hk,by rw[e]⟩,fun k _=>by rw[e],by rw[e];exact Nat.le_refl _,
  fun t _=>by rw[e];exact Nat.le_refl _,fun t _ _=>by rw[e];exact⟨rfl,rfl⟩,fun t _=>by rw[e],fun t ht=> ?_,by rw[e];exact Nat.le_refl _,fun k _=>by rw[e],fun k h1 h2=> ?_,fun b hb' _ _ _=>h.heap b hb'⟩
 ·by_cases hlt:b<w.heap.size
  ·rw[(h.heap b hlt).2];exact Nat.le_refl _
  ·rw[hb b (by omega)];exact Nat.zero_le _
 ·have hlt:b<w.heap.size:=by
   rcases Nat.lt_or_ge b w.heap.size with h'|h'
   ·exact h'
   ·rw[hb b h']at ho;omega
  unfold World.cell?
  rw[(h.heap b hlt).1]
 ·rw[e]at ht⊢;exact .inl ⟨ht,rfl⟩
 ·rw[e]at h2;simp only at h2;omega
theorem Grow.drew(hb:pH G w):Grow G w G w.drew:=⟨rfl,rfl,rfl,rfl,Nat.le_refl _,fun _ _=>⟨rfl,rfl⟩,hb⟩
def aF.set(G:aF)(b L:Nat):aF:={G with lim:=fun x=>if x=b then L else G.lim x}
theorem Grow.alloc(hb:pH G w)(o:Obj)(L:Nat):Grow G w (G.set w.heap.size L) (w.alloc o)where
 g:=rfl
 os:=rfl
 tape:=rfl
 output:=rfl
 size:=by simp
 heap:=fun b h=>⟨Below.heap_alloc w o b h,by simp[aF.set];omega⟩
 new:=fun b h=>by
  have:w.heap.size+1≤b:=by simpa using h
  simp only[aF.set]
  rw[if_neg (by omega)]
  exact hb b (by omega)
structure dN(G:aF)(w:World)(n:Nat)(tmps:Array Value)(T:Env):Prop where
 size:n≤tmps.size
 get:∀i,bG G w (tmps.getD i undef) (T i)
theorem dN.step{n:Nat}{tmps:Array Value}{T:Env}(h:dN G w n tmps T)(hst:Step G w G' w'):dN G' w' n tmps T:=⟨h.size,fun i=>(h.get i).step hst⟩
theorem dN.put{n d:Nat}{tmps:Array Value}{T:Env}{v:Value}{x:AV}(h:dN G w n tmps T)(hd:d<n)(hr:bG G w v x):dN G w n (tmps.setIfInBounds d v) (DM T d x):=by
 refine⟨by simpa using h.size,fun i=> ?_⟩
 have hs:=h.size
 rw[hO]
 split
 ·rename_i e
  subst e
  have:(tmps.setIfInBounds i v).getD i undef=v:=by simp[Array.getD,show i<tmps.size by omega]
  rw[this];exact hr
 ·rename_i e
  have:(tmps.setIfInBounds d v).getD i undef=tmps.getD i undef:=by
   simp only[Array.getD_eq_getD_getElem?]
   rw[Array.getElem?_setIfInBounds_ne (by omega)]
  rw[this];exact h.get i
theorem dN.aU{n:Nat}{d:Option Nat}{tmps:Array Value}{df:List Deferred}{T:Env}{v:Value}{x:AV}(h:dN G w n tmps T)(hd:d.all (fun d=>decide (d<n))=true)(hr:bG G w v x):
 dN G w n ((⟨tmps,df⟩:Act).put d v).tmps (aU T d x):=by
 cases d with
 |none=>exact h
 |some d=>exact h.put (by simpa using hd) hr
theorem vN{v:Value}{x:AV}(h:Ip v=some x):bG G w v x:=by
 unfold Ip at h
 split at h<;>simp only[Option.some.injEq,reduceCtorEq]at h<;>subst h
 ·exact .bool _
 ·exact .int _ _
 ·exact .bQ _
 ·exact .str _
 ·exact .dO
 ·exact .gZ _ _ _ (fun _=>rfl) (fun _ e=>by cases e)
 ·exact .nilFunc
 ·exact .nilIface
theorem m6:∀{vs:List Value}{xs:List AV},vM vs=some xs→vs.length=xs.length∧∀i(h1:i<vs.length)(h2:i<xs.length),bG G w vs[i] xs[i]
 |[],xs,h=>by
  simp only[vM,Option.some.injEq]at h
  subst h
  exact⟨rfl,fun i h1=>absurd h1 (by simp)⟩
 |v::vs,xs,h=>by
  simp only[vM]at h
  split at h
  ·rename_i x ys h1 h2
   simp only[Option.some.injEq]at h
   subst h
   obtain⟨hl,hr⟩:=m6 h2
   refine⟨by simp[hl],fun i h3 h4=> ?_⟩
   cases i with
   |zero=>exact vN h1
   |succ i=>simpa using hr i (by simpa using h3) (by simpa using h4)
  ·cases h
theorem AK{v:Value}{x:AV}(h:R7 v=some x):bG G w v x:=by
 unfold R7 at h
 split at h
 ·rename_i cs
  simp only[Option.map_eq_some_iff]at h
  obtain⟨xs,h1,rfl⟩:=h
  obtain⟨hl,hr⟩:=m6 (G:=G) (w:=w) h1
  exact .agg _ _ (by simpa using hl) fun i h1 h2=>by
   have:=hr i (by simpa using h1) h2
   rwa [Array.getElem_toList]at this
 ·exact vN h
theorem bD{n:Nat}{a:Act}{T:Env}{o:Operand}{x:dX}(hT:dN G w n a.tmps T)(h:dz o=some x):bG G w (a.eval o) (ev T x):=by
 cases o with
 |tmp t=>simp only[dz,Option.some.injEq]at h;subst h;exact hT.get t
 |const v=>
  simp only[dz,Option.map_eq_some_iff]at h
  obtain⟨y,h1,rfl⟩:=h
  exact AK h1
 |global g=>simp only[dz,Option.some.injEq]at h;subst h;exact .undef _
 |func f=>simp only[dz,Option.some.injEq]at h;subst h;exact .func f #[] [] rfl fun i h1=>absurd h1 (by simp)
theorem jM{n:Nat}{a:Act}{T:Env}(hT:dN G w n a.tmps T):∀{os:List Operand}{xs:List dX},iU os=some xs→os.length=xs.length∧∀i(h1:i<os.length)(h2:i<xs.length),bG G w (a.eval os[i]) (ev T xs[i])
 |[],xs,h=>by
  simp only[iU,Option.some.injEq]at h
  subst h
  exact⟨rfl,fun i h1=>absurd h1 (by simp)⟩
 |o::os,xs,h=>by
  simp only[iU]at h
  split at h
  ·rename_i x ys h1 h2
   simp only[Option.some.injEq]at h
   subst h
   obtain⟨hl,hr⟩:=jM hT h2
   refine⟨by simp[hl],fun i h3 h4=> ?_⟩
   cases i with
   |zero=>exact bD hT h1
   |succ i=>simpa using hr i (by simpa using h3) (by simpa using h4)
  ·cases h
theorem vO{op:BinOp}{t:TypeId}{x y:Operand}{k k':IntKind}{a b:Int}:(eqGuard op t x y (.int k a) (.int k' b)).run P w=.ok () w:=by cases op<;>rfl
theorem vP{op:BinOp}{t:TypeId}{x y:Operand}{a b:Nat}:(eqGuard op t x y (.float .f64 a) (.float .f64 b)).run P w=.ok () w:=by cases op<;>rfl
theorem vQ{op:BinOp}{t:TypeId}{x y:Operand}{a b:ByteArray}:(eqGuard op t x y (.string a) (.string b)).run P w=.ok () w:=by cases op<;>rfl
theorem m7{op:BinOp}{t:TypeId}{x y:Operand}{a b:Bool}:(eqGuard op t x y (.bool a) (.bool b)).run P w=.ok () w:=by cases op<;>rfl
theorem yH{op:BinOp}{k:IntKind}{a b:Int}{z:AV}{t:TypeId}(h:jD op k a b=some z):∃r,(binOp op t (.int k a) (.int k b)).run P w=.ok r w∧bG G w r z:=by
 cases op<;>simp only[jD,Option.some.injEq,reduceCtorEq]at h
 all_goals first
  |(subst h;exact⟨_,by simp only[binOp,Op.intArith,Op.intCmp,Op.intBits,ne_eq,not_true,if_false,not_false_eq_true];rfl,by first|exact .int _ _|exact .bool _⟩)
  |(split at h
    ·cases h
    ·rename_i hb
     simp only[Option.some.injEq]at h
     subst h
     exact⟨_,by simp only[binOp,Op.intDiv,ne_eq,not_true,if_false,not_false_eq_true,hb];rfl,.int _ _⟩)
theorem m8{op:BinOp}{k k':IntKind}{a b:Int}{z:AV}{t:TypeId}(h:pY op k a b=some z):∃r,(binOp op t (.int k a) (.int k' b)).run P w=.ok r w∧bG G w r z:=by
 cases op<;>simp only[pY,reduceCtorEq]at h
 all_goals
  split at h
  ·cases h
  ·rename_i hb
   simp only[Option.some.injEq]at h
   subst h
   exact⟨_,by simp only[binOp,Op.shift,hb,if_false];rfl,.int _ _⟩
theorem toList_mk(s:List UInt8):(⟨s.toArray⟩:ByteArray).toList=s:=by
 exact ByteArray.toList_mk s
theorem yI{op:BinOp}{a b:List UInt8}{z:AV}{t:TypeId}(h:mB op a b=some z):∃r,(binOp op t (.string ⟨a.toArray⟩) (.string ⟨b.toArray⟩)).run P w=.ok r w∧bG G w r z:=by
 have sa:(⟨a.toArray⟩:ByteArray).size=a.length:=by simp[ByteArray.size]
 have sb:(⟨b.toArray⟩:ByteArray).size=b.length:=by simp[ByteArray.size]
 cases op<;>simp only[mB,reduceCtorEq]at h
 case add=>
  split at h
  ·rename_i hle
   simp only[Option.some.injEq]at h
   subst h
   have hx:¬((((⟨a.toArray⟩:ByteArray).size+(⟨b.toArray⟩:ByteArray).size:Nat):Int)>IntKind.i64.max):=by
    rw[sa,sb];have:IntKind.i64.max=9223372036854775807:=by decide
    rw[this];omega
   refine⟨.string (⟨a.toArray⟩++⟨b.toArray⟩),by simp only[binOp,Op.stringOp,hx,if_false];rfl,?_⟩
   have e:((⟨a.toArray⟩:ByteArray)++⟨b.toArray⟩)=⟨(a++b).toArray⟩:=by
    apply ByteArray.ext;simp
   rw[e];exact .str _
  ·cases h
 all_goals
  simp only[Option.some.injEq]at h
  subst h
  exact⟨_,by simp only[binOp,Op.stringOp,toList_mk];rfl,.bool _⟩
theorem fV(x y:Nat):(Question.nanBits .f64 x y).forced=false:=rfl
theorem vR(x y t:Nat):(FloatKind.f64.format.read ((Question.nanBits .f64 x y).cut t)).isNaN=true:=by
 have hc:(Question.nanBits .f64 x y).cut t=(t%2)*2^63+0x7ff0000000000000+1+(t/2)%(2^52-1):=rfl
 rw[hc]
 have h1:(t/2)%(2^52-1)<2^52-1:=Nat.mod_lt _ (by decide)
 have h2:t%2<2:=Nat.mod_lt _ (by decide)
 generalize(t/2)%(2^52-1)=m at*
 generalize t%2=s at*
 have hw:FloatKind.f64.format.signWeight=2^63:=by decide
 have W2:FloatKind.f64.format.binade=2^52:=by decide
 have hir:FloatKind.f64.format.infRung=0x7ff0000000000000:=by decide
 unfold Ieee.Format.read
 simp only[hw,W2,hir]
 have hr:(s*2^63+0x7ff0000000000000+1+m)%2^63=0x7ff0000000000000+1+m:=by omega
 rw[hr]
 rw[if_neg (by omega),if_neg (by omega),if_neg (by omega)]
 rfl
theorem oQ{a b:Nat}(h:(FloatKind.f64.format.read a).isNaN=true):FloatKind.f64.format.order a b=none:=by
 unfold Ieee.Format.order
 cases hd:FloatKind.f64.format.read a<;>rw[hd]at h<;>simp[Ieee.Datum.isNaN]at h
 rfl
theorem oR{a b:Nat}(h:(FloatKind.f64.format.read b).isNaN=true):FloatKind.f64.format.order a b=none:=by
 unfold Ieee.Format.order
 cases hd:FloatKind.f64.format.read b<;>rw[hd]at h<;>simp[Ieee.Datum.isNaN]at h
 cases FloatKind.f64.format.read a<;>rfl
theorem sM{x y:Ieee.Datum}(h:x.isNaN=true):x.sum y=none:=by
 cases x<;>simp[Ieee.Datum.isNaN]at h
 rfl
theorem sN{x y:Ieee.Datum}(h:y.isNaN=true):x.sum y=none:=by
 cases y<;>simp[Ieee.Datum.isNaN]at h
 cases x<;>rfl
theorem yJ{x y:Ieee.Datum}(h:x.isNaN=true):x.product y=none:=by
 cases x<;>simp[Ieee.Datum.isNaN]at h
 rfl
theorem yK{x y:Ieee.Datum}(h:y.isNaN=true):x.product y=none:=by
 cases y<;>simp[Ieee.Datum.isNaN]at h
 cases x<;>rfl
theorem BT{n:Nat}{x y:Ieee.Datum}(h:x.isNaN=true):Ieee.Datum.quotient n x y=none:=by
 cases x<;>simp[Ieee.Datum.isNaN]at h
 rfl
theorem BU{n:Nat}{x y:Ieee.Datum}(h:y.isNaN=true):Ieee.Datum.quotient n x y=none:=by
 cases y<;>simp[Ieee.Datum.isNaN]at h
 cases x<;>rfl
theorem Ir{x:Ieee.Datum}(h:x.isNaN=true):x.opposite.isNaN=true:=by
 cases x<;>simp[Ieee.Datum.isNaN]at h
 rfl
inductive vS:Nat→Option Nat→Prop
 |bits(b:Nat):vS b (some b)
 |nan(b:Nat)(h:(FloatKind.f64.format.read b).isNaN=true):vS b none
theorem lS(f:Nat→Nat→Option Nat)(op:BinOp)(a b:Nat)(hf:∀w:World,(Op.floatArith op .f64 a b).run P w=(match f a b with
 |some r=>Result.ok (Value.float .f64 r) w
 |none=>.ok (.float .f64 ((Question.nanBits .f64 a b).cut (w.tape w.drawn (.nanBits .f64 a b)))) w.drew))
 (hb:pH G w){z:AV}(hz:(match f a b with|some r=>AV.bQ r|none=>AV.nan)=z):∃r w',(Op.floatArith op .f64 a b).run P w=.ok r w'∧Grow G w G w'∧bG G w' r z:=by
 rw[hf]
 subst hz
 cases f a b with
 |some r=>exact⟨_,_,rfl,.refl hb,.bQ r⟩
 |none=>exact⟨_,_,rfl,.drew hb,.nan _ (vR _ _ _)⟩
theorem fW(op:BinOp)(f:Nat→Nat→Option Nat)(hop:(op=.add∧f=FloatKind.f64.format.add)∨(op=.sub∧f=FloatKind.f64.format.sub)∨(op=.mul∧f=FloatKind.f64.format.mul)∨(op=.quo∧f=FloatKind.f64.format.div))(a b:Nat)(w:World):
 (Op.floatArith op .f64 a b).run P w=(match f a b with
   |some r=>Result.ok (Value.float .f64 r) w
   |none=>.ok (.float .f64 ((Question.nanBits .f64 a b).cut (w.tape w.drawn (.nanBits .f64 a b)))) w.drew):=by
 rcases hop with⟨rfl,rfl⟩|⟨rfl,rfl⟩|⟨rfl,rfl⟩|⟨rfl,rfl⟩<;>simp only[Op.floatArith,Sem.run_bind,Sem.run_pure,Result.andThen]
 ·cases FloatKind.f64.format.add a b<;>first|rfl|(simp[fV];done)
 ·cases FloatKind.f64.format.sub a b<;>first|rfl|(simp[fV];done)
 ·cases FloatKind.f64.format.mul a b<;>first|rfl|(simp[fV];done)
 ·cases FloatKind.f64.format.div a b<;>first|rfl|(simp[fV];done)
theorem Oy{a b:Nat}{x y:Option Nat}(hx:vS a x)(hy:vS b y)(hn:x=none∨y=none):
 FloatKind.f64.format.order a b=none∧FloatKind.f64.format.add a b=none∧FloatKind.f64.format.sub a b=none∧FloatKind.f64.format.mul a b=none∧FloatKind.f64.format.div a b=none:=by
 rcases hn with rfl|rfl
 ·cases hx with
  |nan h=>exact⟨oQ h,by simp[Ieee.Format.add,sM h],by simp[Ieee.Format.sub,sM h],by simp[Ieee.Format.mul,yJ h],by simp[Ieee.Format.div,BT h]⟩
 ·cases hy with
  |nan h=>exact⟨oR h,by simp[Ieee.Format.add,sN h],by simp[Ieee.Format.sub,sN (Ir h)],by simp[Ieee.Format.mul,yK h],by simp[Ieee.Format.div,BU h]⟩
theorem yL{op:BinOp}{a b:Nat}{x y:Option Nat}{z:AV}{t:TypeId}(hb:pH G w)(hx:vS a x)(hy:vS b y)(h:kW op x y=some z):
 ∃r w',(binOp op t (.float .f64 a) (.float .f64 b)).run P w=.ok r w'∧Grow G w G w'∧bG G w' r z:=by
 have ho:bP x y=FloatKind.f64.format.order a b:=by
  cases hx with
  |bits=>
   cases hy with
   |bits=>rfl
   |nan hn=>exact(oR hn).symm
  |nan hn=>exact(oQ hn).symm
 have ha:∀f:Nat→Nat→Option Nat,(x=none∨y=none→f a b=none)→oN f x y=some (match f a b with|some r=>AV.bQ r|none=>AV.nan):=by
  intro f hf
  cases hx with
  |bits=>
   cases hy with
   |bits=>show(match f a b with|some z=>some (AV.bQ z)|none=>some AV.nan)=_;cases f a b<;>rfl
   |nan hn=>rw[hf (.inr rfl)];rfl
  |nan hn=>rw[hf (.inl rfl)];unfold oN;rfl
 have hn:=fun hh=>Oy hx hy hh
 cases op<;>simp only[kW,reduceCtorEq]at h
 case add=>
  rw[ha _ (fun hh=>(hn hh).2.1)]at h
  obtain⟨r,w',h1,h2,h3⟩:=lS (P:=P) FloatKind.f64.format.add .add a b (fW .add _ (.inl ⟨rfl,rfl⟩) a b) hb (Option.some.inj h)
  exact⟨r,w',by simp only[binOp];exact h1,h2,h3⟩
 case sub=>
  rw[ha _ (fun hh=>(hn hh).2.2.1)]at h
  obtain⟨r,w',h1,h2,h3⟩:=lS (P:=P) FloatKind.f64.format.sub .sub a b (fW .sub _ (.inr (.inl ⟨rfl,rfl⟩)) a b) hb (Option.some.inj h)
  exact⟨r,w',by simp only[binOp];exact h1,h2,h3⟩
 case mul=>
  rw[ha _ (fun hh=>(hn hh).2.2.2.1)]at h
  obtain⟨r,w',h1,h2,h3⟩:=lS (P:=P) FloatKind.f64.format.mul .mul a b (fW .mul _ (.inr (.inr (.inl ⟨rfl,rfl⟩))) a b) hb (Option.some.inj h)
  exact⟨r,w',by simp only[binOp];exact h1,h2,h3⟩
 case quo=>
  rw[ha _ (fun hh=>(hn hh).2.2.2.2)]at h
  obtain⟨r,w',h1,h2,h3⟩:=lS (P:=P) FloatKind.f64.format.div .quo a b (fW .quo _ (.inr (.inr (.inr ⟨rfl,rfl⟩))) a b) hb (Option.some.inj h)
  exact⟨r,w',by simp only[binOp];exact h1,h2,h3⟩
 all_goals
  rw[ho]at h
  simp only[Option.some.injEq]at h
  subst h
  exact⟨_,w,by simp only[binOp,Op.floatCmp];rfl,.refl hb,.bool _⟩
def LD:TypeDesc→Bool
 |.struct _=>true
 |.array _ _=>true
 |_=>false
theorem run_part_plain{t:TypeId}{d:TypeDesc}{us:Array Value}{o:Nat}{v:Value}(ht:P.underlying t=some d)(hd:LD d=false)(h:us[o]?=some v):
 (part t us o).run P w=.ok v w:=by
 unfold part
 have:(isAgg t).run P w=.ok false w:=by
  unfold isAgg
  cases d<;>first|(simp[run_underlying ht];done)|(simp[LD]at hd;done)
 simp[this,h]
theorem uz{us vs:Array Value}{X Y:List AV}{d:Nat}(hu:us.size=X.length)(hv:vs.size=Y.length)
 (hx:∀i(h1:i<us.size)(h2:i<X.length),bG G w us[i] X[i])(hy:∀i(h1:i<vs.size)(h2:i<Y.length),bG G w vs[i] Y[i]):
 ∀(fs:List Field)(ks:List FK)(i:Nat)(b:Bool),lR P i fs=some ks→jq ks (X.drop i) (Y.drop i)=some b→(Op.eqFields (d+1) us vs fs).run P w=.ok b w:=by
 intro fs
 induction fs with
 |nil=>
  intro ks i b hk h
  simp only[lR,Option.some.injEq]at hk
  subst hk
  generalize X.drop i=X' at h
  generalize Y.drop i=Y' at h
  cases X'<;>cases Y'<;>simp only[jq,reduceCtorEq,Option.some.injEq]at h
  subst h;rfl
 |cons f fs ih=>
  intro ks i b hk h
  simp only[lR]at hk
  split at hk
  ·rename_i hf
   obtain⟨ho,hn⟩:=hf
   have key:∀(k:FK)(ks':List FK),lR P (i+1) fs=some ks'→jq (k::ks') (X.drop i) (Y.drop i)=some b→
    (∃dd,P.underlying f.type=some dd∧LD dd=false)→
    (∀x y u v c,bG G w u x→bG G w v y→pZ k x y=some c→(Op.equalIn (d+1) f.type u v).run P w=.ok c w)→
    (Op.eqFields (d+1) us vs (f::fs)).run P w=.ok b w:=by
    intro k ks' hks h⟨dd,oO,Oz⟩OA
    generalize hX:X.drop i=X' at h
    generalize hY:Y.drop i=Y' at h
    cases X' with
    |nil=>simp[jq]at h
    |cons x xs=>
     cases Y' with
     |nil=>simp[jq]at h
     |cons y ys=>
      simp only[jq]at h
      split at h
      ·rename_i a c hl hr
       simp only[Option.some.injEq]at h
       subst h
       have R8:i<X.length:=by
        rcases Nat.lt_or_ge i X.length with h'|h'
        ·exact h'
        ·rw[List.drop_eq_nil_of_le h']at hX;cases hX
       have VI:i<Y.length:=by
        rcases Nat.lt_or_ge i Y.length with h'|h'
        ·exact h'
        ·rw[List.drop_eq_nil_of_le h']at hY;cases hY
       rw[List.drop_eq_getElem_cons R8]at hX
       rw[List.drop_eq_getElem_cons VI]at hY
       obtain⟨e1,e2⟩:=List.cons.inj hX
       obtain⟨e3,e4⟩:=List.cons.inj hY
       have r1:=run_part_plain (P:=P) (w:=w) (us:=us) (o:=f.offset) (v:=us[i]'(by omega)) oO Oz (by rw[ho];exact Array.getElem?_eq_getElem _)
       have r2:=run_part_plain (P:=P) (w:=w) (us:=vs) (o:=f.offset) (v:=vs[i]'(by omega)) oO Oz (by rw[ho];exact Array.getElem?_eq_getElem _)
       have r3:=OA x y _ _ a (e1▸hx i (by omega) R8) (e3▸hy i (by omega) VI) hl
       have r4:=ih ks' (i+1) c hks (by rw[e2,e4];exact hr)
       simp only[Op.eqFields,ne_eq,hn,not_false_eq_true,if_true,Sem.run_bind,r1,r2,r3,Result.andThen_ok]
       cases a
       ·simp
       ·simpa using r4
      ·cases h
   split at hk
   ·rename_i kk ks' vT hks
    simp only[Option.some.injEq]at hk
    subst hk
    refine key _ _ hks h ⟨_,vT,rfl⟩ fun x y u v c rx ry hl=> ?_
    cases x<;>cases y<;>simp only[pZ,reduceCtorEq]at hl
    split at hl
    ·rename_i hkk
     simp only[Option.some.injEq]at hl
     subst hl;subst hkk
     cases rx;cases ry
     exact run_equalIn_int w d f.type _ _ _ _ vT
    ·cases hl
   ·rename_i ks' vT hks
    simp only[Option.some.injEq]at hk
    subst hk
    refine key _ _ hks h ⟨_,vT,rfl⟩ fun x y u v c rx ry hl=> ?_
    cases x<;>cases y<;>simp only[pZ,reduceCtorEq,Option.some.injEq]at hl
    subst hl
    cases rx;cases ry
    exact run_equalIn_bool' w d f.type _ _ vT
   ·rename_i ks' vT hks
    simp only[Option.some.injEq]at hk
    subst hk
    refine key _ _ hks h ⟨_,vT,rfl⟩ fun x y u v c rx ry hl=> ?_
    cases x<;>cases y<;>simp only[pZ,reduceCtorEq,Option.some.injEq]at hl
    subst hl
    cases rx;cases ry
    rw[run_equalIn_string w d f.type _ _ vT,ByteArray.toList_mk,ByteArray.toList_mk]
   ·cases hk
  ·cases hk
theorem vU{neg:Bool}{ks:List FK}{x y z:AV}{u v:Value}{t:TypeId}{ox oy:Operand}(hk:uk P t=some ks)(hx:bG G w u x)(hy:bG G w v y)(h:AG neg ks x y=some z):
 ∃r,(do eqGuard (if neg then .neq else .eql) t ox oy u v;binOp (if neg then .neq else .eql) t u v:Sem Value).run P w=.ok r w∧bG G w r z:=by
 unfold AG at h
 split at h
 ·rename_i xs ys
  split at h
  ·rename_i b hb
   simp only[Option.some.injEq]at h
   subst h
   cases hx with
   |agg us _ hu W3=>
   cases hy with
   |agg vs _ hv W4=>
   unfold uk at hk
   split at hk
   ·rename_i fs hfs
    split at hk
    ·rename_i hp
     have hfo:P.fieldsOf t=fs:=by simp[Program.fieldsOf,hfs]
     have e1:=uz (P:=P) (d:=9998) hu hv W3 W4 fs.toList ks 0 b hk (by simpa using hb)
     have e2:=run_equalIn_agg (P:=P) w 9999 t us vs (by rw[hfo];exact hfs) hp.1
     rw[hfo,e1]at e2
     refine⟨.bool (if neg then !b else b),?_,.bool _⟩
     cases neg
     ·simp only[Sem.run_bind,Bool.false_eq_true,if_false,run_eqGuard_agg w _ t ox oy us vs hp.2,Result.andThen_ok,run_eql_struct,e2]
     ·simp only[Sem.run_bind,if_true,run_eqGuard_agg w _ t ox oy us vs hp.2,Result.andThen_ok,run_neq_struct,e2]
    ·cases hk
   ·cases hk
  ·cases h
 ·cases h
end Go.Aa
namespace Go.Aa
open Go.RowKit
variable{P:Program}{G G':aF}{w w':World}
theorem LF{op:UnOp}{x z:AV}{u:Value}(hx:bG G w u x)(h:SQ op x=some z):∃r,(Op.unary op u).run P w=.ok r w∧bG G w r z:=by
 cases x<;>simp only[SQ,reduceCtorEq]at h<;>cases op<;>simp only[Option.some.injEq,reduceCtorEq]at h<;>subst h<;>cases hx
 ·exact⟨_,rfl,.bool _⟩
 ·exact⟨_,rfl,.int _ _⟩
 ·exact⟨_,rfl,.bQ _⟩
theorem AL{st:Bool}{x z:AV}{u:Value}{t ty:TypeId}(hx:bG G w u x)(h:dA st x=some z)(ht:if st then P.underlying t=some .string else∃e,P.underlying t=some (.slice e)):
 ∃r,(Builtin.len_ #[t] ty #[u]).run P w=.ok r w∧bG G w r z:=by
 cases st<;>cases x<;>simp only[dA,reduceCtorEq,Option.some.injEq]at h<;>subst h
 ·obtain⟨e,ht⟩:=ht
  rename_i k l
  have hr:∀a n c,(Builtin.len_ #[t] ty #[.slice a n c]).run P w=.ok (.int .i64 n) w:=by
   intro a n c
   simp[Builtin.len_,run_underlying ht,goInt]
  cases hx with
  |gZ=>exact⟨_,hr _ _ _,.int _ _⟩
  |sl=>exact⟨_,hr _ _ _,.int _ _⟩
 ·obtain⟨e,ht⟩:=ht
  have hr:∀a n c,(Builtin.len_ #[t] ty #[.slice a n c]).run P w=.ok (.int .i64 n) w:=by
   intro a n c
   simp[Builtin.len_,run_underlying ht,goInt]
  cases hx
  exact⟨_,hr _ _ _,.int _ _⟩
 ·rename_i s
  cases hx
  have hs:(⟨s.toArray⟩:ByteArray).size=s.length:=by simp[ByteArray.size]
  have ht':P.underlying t=some .string:=ht
  refine⟨.int .i64 s.length,?_,.int _ _⟩
  rw[←hs]
  simp only[Builtin.len_,List.getElem?_toArray,List.getElem?_cons_zero,Sem.run_bind,run_underlying ht',Result.andThen_ok,goInt]
  rfl
theorem bG.elem{u:Value}{k:SK}{l:List AV}{i:Nat}(hx:bG G w u (.sl k l))(hi:i<l.length):
 ∃(a:Addr)(c es:Nat)(us:Nat→Nat→Value),u=.slice (some a) l.length c∧a.spot=none∧l.length≤c∧c≤9223372036854775807∧(∀j(hj:j<l.length),(l[j]).cells.length=es)∧0<es∧a.off+l.length*es≤G.lim a.block∧
  (∀x∈l,∀y∈x.cells,AV.Data y)∧(∀i,i<l.length→∀j,j<es→w.cell? (a.add (i*es+j))=some (us i j))∧(∀i(hi:i<l.length)j(hj:j<(l[i]).cells.length),bG G w (us i j) ((l[i]).cells[j])):=by
 cases hx with
 |gZ=>simp at hi
 |sl a c k l es us hl hc hcm hs ji fA hd hlim hcell bZ hfull hown=>exact⟨a,c,es,us,rfl,hs,hc,hcm,ji,fA,hlim,hd,hcell,bZ⟩
theorem dQ{n:Nat}{x:AV}(h:cF n x=true):x.cells.length=n:=by
 cases x<;>simp[cF]at h<;>simp[AV.cells,h]
theorem n4{i n es:Nat}(h:i<n):i*es+es≤n*es:=by
 have:=Nat.mul_le_mul_right es (show i+1≤n from h)
 rw[Nat.add_mul]at this;omega
theorem kZ{a:Addr}(hs:a.spot=none)(m n:Nat):(a.add m).add n=a.add (m+n):=by
 rw[dD hs,dD rfl,dD hs]
 simp[Nat.add_assoc]
theorem Is{u:Value}{k:SK}{l:List AV}{i es:Nat}{e:AV}(hx:bG G w u (.sl k l))(hi:l[i]?=some e)(he:cF es e=true):
 ∃(a:Addr)(c:Nat),u=.slice (some a) l.length c∧bG G w (.pointer (some (a.add (i*es)))) (.ref e.cells):=by
 obtain⟨hlt,Oh⟩:=List.getElem?_eq_some_iff.1 hi
 obtain⟨a,c,es',us,rfl,hs,hc,hcm,ji,fA,hlim,hd,hcell,bZ⟩:=hx.elem hlt
 have LG:es'=es:=by rw[←ji i hlt,Oh];exact dQ he
 subst LG
 have hcl:e.cells.length=es':=dQ he
 have hr:=n4 (es:=es') hlt
 refine⟨a,c,rfl,.ref _ _ (us i) (by rw[dD hs]) (fun y hy=>hd e (Oh▸List.getElem_mem hlt) y hy) ?_ (fun j hj=> ?_) (fun j hj=> ?_)⟩
 ·rw[dD hs,hcl];simp only;omega
 ·rw[kZ hs];exact hcell i hlt j (by omega)
 ·have:=bZ i hlt j (by rw[Oh];exact hj)
  simp only[Oh]at this
  exact this
theorem It{x y z:AV}{u v:Value}{t e:TypeId}{es:Nat}(hx:bG G w u x)(hy:bG G w v y)(h:cc es x y=some z)(ht:P.underlying t=some (.slice e))(he:eU P e=some es):
 ∃r,(Instr.indexAt t u v).run P w=.ok r w∧bG G w r z:=by
 have hsz:(sizeOf e).run P w=.ok es w:=by
  simp only[eU,Option.map_eq_some_iff]at he
  obtain⟨i,hi,rfl⟩:=he
  simp[sizeOf,typeInfo,hi]
 have hel:P.elem t=e:=by simp[Program.elem,ht]
 unfold cc at h
 split at h
 ·rename_i k l kk i
  split at h
  ·rename_i h0
   split at h
   ·rename_i el OB
    split at h
    ·rename_i hN
     simp only[Option.some.injEq]at h
     subst h
     obtain⟨a,c,rfl,hr⟩:=Is hx OB hN
     cases hy
     obtain⟨hlt,_⟩:=List.getElem?_eq_some_iff.1 OB
     refine⟨_,?_,hr⟩
     rw[run_indexAt_slice _ _ _ _ _ _ _ (by rw[hel];exact ht),if_pos ⟨h0,by omega⟩,hel,hsz]
     rfl
    ·cases h
   ·cases h
  ·cases h
 ·rename_i k off n es' kk i
  split at h
  ·rename_i h0
   obtain⟨h0,rfl⟩:=h0
   simp only[Option.some.injEq]at h
   subst h
   cases hx with
   |cY _ _ _ c _ hk hc hcm fA hcap=>
   cases hy
   refine⟨_,?_,.ptr k (off+i.toNat*es') hk⟩
   rw[run_indexAt_slice _ _ _ _ _ _ _ (by rw[hel];exact ht),if_pos h0,hel,hsz]
   simp only[Result.andThen_ok]
   rw[dD rfl]
  ·cases h
 ·cases h
theorem D4{x y z:AV}{u v:Value}{t:TypeId}(hx:bG G w u x)(hy:bG G w v y)(h:jK x y=some z)(ht:P.underlying t=some .string):
 ∃r,(Instr.index t u v).run P w=.ok r w∧bG G w r z:=by
 unfold jK at h
 split at h
 ·rename_i s kk i
  split at h
  ·rename_i h0
   split at h
   ·rename_i b hb
    simp only[Option.some.injEq]at h
    subst h
    cases hx;cases hy
    refine⟨.int .u8 b.toNat,?_,.int _ _⟩
    have:(⟨s.toArray⟩:ByteArray)[i.toNat]?=some b:=by
     obtain⟨hlt,he⟩:=List.getElem?_eq_some_iff.1 hb
     have hlt':i.toNat<(⟨s.toArray⟩:ByteArray).size:=by simpa[ByteArray.size]using hlt
     rw[getElem?_pos (⟨s.toArray⟩:ByteArray) i.toNat hlt']
     simp[←he,ByteArray.getElem_eq_getElem_data]
    simp[Instr.index,asIntOf,run_underlying ht,h0,this]
   ·cases h
  ·cases h
 ·cases h
theorem Iu{x z:AV}{u:Value}{s:TypeId}{i n:Nat}{f:Field}(hx:bG G w u x)(h:BR f.offset n x=some z)(hf:nY P s i=some f)(hn:eU P f.type=some n)(h0:n≠0):
 ∃r,(Instr.fieldAt s u i).run P w=.ok r w∧bG G w r z:=by
 have hsz:(sizeOf f.type).run P w=.ok n w:=by
  simp only[eU,Option.map_eq_some_iff]at hn
  obtain⟨i,hi,rfl⟩:=hn
  simp[sizeOf,typeInfo,hi]
 obtain⟨fs,hu,R9⟩:∃fs,P.underlying s=some (.struct fs)∧fs[i]?=some f:=by
  unfold nY at hf
  split at hf
  ·exact⟨_,‹_›,hf⟩
  ·cases hf
 have hrun:∀a:Addr,(Instr.fieldAt s (.pointer (some a)) i).run P w=.ok (.pointer (some (a.add f.offset))) w:=by
  intro a
  simp[Instr.fieldAt,run_underlying hu,R9,Instr.sureAddr,fieldPlace,hsz,h0]
 unfold BR at h
 split at h
 ·rename_i k o
  simp only[Option.some.injEq]at h
  subst h
  cases hx with
  |ptr _ _ hk=>
  refine⟨_,hrun _,?_⟩
  rw[dD rfl]
  exact .ptr _ _ hk
 ·rename_i cs
  split at h
  ·rename_i hle
   simp only[Option.some.injEq]at h
   subst h
   cases hx with
   |ref a _ us hs hd hlim hcell bZ=>
   have hlen:((cs.drop f.offset).take n).length=n:=by simp;omega
   refine⟨_,hrun _,.ref _ _ (fun j=>us (f.offset+j)) (by rw[dD hs]) (fun y hy=>hd y (List.mem_of_mem_drop (List.mem_of_mem_take hy))) ?_ (fun j hj=> ?_) (fun j hj=> ?_)⟩
   ·rw[dD hs,hlen];simp only;omega
   ·rw[hlen]at hj
    rw[kZ hs];exact hcell _ (by omega)
   ·rw[hlen]at hj
    have:=bZ (f.offset+j) (by omega)
    simpa using this
  ·cases h
 ·cases h
theorem D5{x z:AV}{u:Value}{s:TypeId}{i n:Nat}{g:Bool}{f:Field}(hx:bG G w u x)(h:DU g f.offset n x=some z)(hf:nY P s i=some f)(hg:uj P f.type=some g)(hn:eU P f.type=some n)(h1:¬(g=false∧n≠1)):
 ∃r,(Instr.field s u i).run P w=.ok r w∧bG G w r z:=by
 have hsz:(sizeOf f.type).run P w=.ok n w:=by
  simp only[eU,Option.map_eq_some_iff]at hn
  obtain⟨i,hi,rfl⟩:=hn
  simp[sizeOf,typeInfo,hi]
 have hag:(isAgg f.type).run P w=.ok g w:=by
  unfold uj at hg
  unfold isAgg
  split at hg<;>simp only[Option.some.injEq,reduceCtorEq]at hg<;>subst hg
  ·rename_i e;simp[run_underlying e]
  ·rename_i e;simp[run_underlying e]
  ·rename_i d e1 e2 e
   simp only[Sem.run_bind,run_underlying e,Result.andThen_ok]
   cases d<;>first|rfl|exact absurd e (e1 _)|exact absurd e (e2 _ _)
 obtain⟨fs,hu,R9⟩:∃fs,P.underlying s=some (.struct fs)∧fs[i]?=some f:=by
  unfold nY at hf
  split at hf
  ·exact⟨_,‹_›,hf⟩
  ·cases hf
 unfold DU at h
 split at h
 ·rename_i cs
  split at h
  ·rename_i hle
   cases hx with
   |agg us _ hn' hr=>
   cases g with
   |true=>
    simp only[if_true,Option.some.injEq]at h
    subst h
    refine⟨.agg (us.extract f.offset (f.offset+n)),?_,.agg _ _ (by simp;omega) fun j j1 j2=> ?_⟩
    ·simp[Instr.field,run_underlying hu,R9,part,hag,hsz,asAgg]
    ·have:=hr (f.offset+j) (by simp at j1;omega) (by simp at j2;omega)
     simpa using this
   |false=>
    simp only[Bool.false_eq_true,if_false]at h
    obtain⟨hlt,hz⟩:=List.getElem?_eq_some_iff.1 h
    have hlt':f.offset<us.size:=by omega
    refine⟨us[f.offset],?_,hz▸hr _ hlt' hlt⟩
    simp[Instr.field,run_underlying hu,R9,part,hag,asAgg,Array.getElem?_eq_getElem hlt']
  ·cases h
 ·cases h
theorem vV{x z:AV}{u:Value}{i:Nat}(hx:bG G w u x)(h:p5 i x=some z):∃r,(Instr.extract u i).run P w=.ok r w∧bG G w r z:=by
 unfold p5 at h
 split at h
 ·rename_i vs
  cases hx with
  |tuple us _ hn hr=>
  obtain⟨hlt,hz⟩:=List.getElem?_eq_some_iff.1 h
  have hlt':i<us.size:=by omega
  exact⟨us[i],by simp[Instr.extract,Array.getElem?_eq_getElem hlt'],hz▸hr _ hlt' hlt⟩
 ·cases h
theorem D6{mx:Bool}{x y z:AV}{u v:Value}{az:Array TypeId}{ty:TypeId}(hx:bG G w u x)(hy:bG G w v y)(h:SR mx x y=some z):
 ∃r,(if mx then Builtin.max_ az ty #[u,v]else Builtin.min_ az ty #[u,v]).run P w=.ok r w∧bG G w r z:=by
 unfold SR at h
 split at h
 ·split at h
  ·rename_i k a k' b hk
   simp only[Option.some.injEq]at h
   subst h;subst hk
   cases hx;cases hy
   cases mx
   ·exact⟨_,rfl,.int _ _⟩
   ·exact⟨_,rfl,.int _ _⟩
  ·cases h
 ·cases h
theorem bG.eW{v:Value}{x:AV}(h:bG G w v x):bG G w v (eW x):=by
 cases h<;>try(simp only[Go.Aa.eW];first|assumption|(constructor<;>assumption))
 case gZ a c k hc ht=>
  cases k with
  |sh=>exact .gZ _ _ _ hc ht
  |full=>exact .gZ _ _ _ (fun e=>by cases e) (fun t e=>by cases e)
  |nil=>exact .gZ _ _ _ hc ht
  |own t=>exact absurd rfl (ht t)
 case sl a c k l es us hl hc hcm hs ji fA hd hlim hcell bZ hfull hown=>
  cases k with
  |sh=>exact .sl a c _ l es us hl hc hcm hs ji fA hd hlim hcell bZ hfull hown
  |nil=>exact .sl a c _ l es us hl hc hcm hs ji fA hd hlim hcell bZ hfull hown
  |full=>exact .sl a c _ l es us hl hc hcm hs ji fA hd hlim hcell bZ (fun e=>by cases e) (fun t e=>by cases e)
  |own t=>exact .sl a c _ l es us hl hc hcm hs ji fA hd hlim hcell bZ (fun e=>by cases e) (fun t e=>by cases e)
theorem lT{m m':Nat}{x:Option AV}{d n:Nat}{v:Option Value}(h:eP m x d=some n)(hm:m≤m')(hx:∀y,x=some y→∃u,v=some u∧bG G w u y)(hn:x=none→v=none):
 (x=none∧v=none∧n=d)∨∃u,v=some u∧n≤m∧∀code,(Instr.sliceBound u m' code).run P w=.ok n w:=by
 unfold eP at h
 split at h
 ·simp only[Option.some.injEq]at h
  exact .inl ⟨rfl,hn rfl,h.symm⟩
 ·rename_i k i
  split at h
  ·rename_i hb
   simp only[Option.some.injEq]at h
   obtain⟨u,hu,hr⟩:=hx _ rfl
   cases hr
   refine .inr ⟨_,hu,by omega,fun code=> ?_⟩
   have hb':0≤i∧i≤(m':Int):=⟨hb.1,by omega⟩
   simp[Instr.sliceBound,asIntOf,hb',h]
  ·cases h
 ·cases h
theorem mE{sl:Bool}{n c l h:Nat}{lo hi:Option AV}{vl vh:Option Value}(hc:n≤c)(hh:eP n hi n=some h)(hl:eP h lo 0=some l)
 (rl:∀y,lo=some y→∃u,vl=some u∧bG G w u y)(nl:lo=none→vl=none)(rh:∀y,hi=some y→∃u,vh=some u∧bG G w u y)(nh:hi=none→vh=none):
 (Instr.sliceBounds sl n c vl vh none).run P w=.ok (l,h,c) w∧l≤h∧h≤n:=by
 have H:=lT (P:=P) hh hc rh nh
 have hle:h≤n:=by
  rcases H with⟨_,_,e⟩|⟨_,_,e,_⟩<;>omega
 have L:=lT (P:=P) hl (Nat.le_refl h) rl nl
 have W5:l≤h:=by
  rcases L with⟨_,_,e⟩|⟨_,_,e,_⟩<;>omega
 refine⟨?_,W5,hle⟩
 unfold Instr.sliceBounds
 rcases H with⟨_,rfl,rfl⟩|⟨uh,rfl,_,eh⟩<;>rcases L with⟨_,rfl,rfl⟩|⟨ul,rfl,_,el⟩
 ·simp
 ·simp[el]
 ·simp[eh]
 ·simp[eh,el]
theorem D7{k:SK}{xs:List AV}{u:Value}{es l h:Nat}(hx:bG G w u (.sl k xs))(YU:l≤h)(hh:h≤xs.length)(he:∀e,xs[l]?=some e→cF es e=true):
 ∃(a:Option Addr)(c:Nat),u=.slice a xs.length c∧xs.length≤c∧bG G w (.slice (if c=l then a else a.map (·.add (l*es))) (h-l) (c-l)) (.sl .sh ((xs.take h).drop l)):=by
 have key:∀(a:Option Addr)(n c:Nat),n=0→bG G w (.slice a n c) (.sl .sh []):=fun a n c hn=>by
  subst hn;exact .gZ _ _ _ (fun e=>by cases e) (fun t e=>by cases e)
 cases hx with
 |gZ a c _ hc ht=>
  refine⟨a,c,rfl,Nat.zero_le _,?_⟩
  simp only[List.length_nil]at hh
  have:((([]:List AV).take h).drop l)=[]:=by simp
  rw[this]
  exact key _ _ _ (by omega)
 |sl a c _ _ es' us hl hc hcm hs ji fA hd hlim hcell bZ hfull hown=>
  refine⟨some a,c,rfl,hc,?_⟩
  rcases Nat.lt_or_ge l h with hlt|hge
  ·have KH:l<xs.length:=by omega
   have LG:es'=es:=by
    rw[←ji l KH]
    exact dQ (he _ (List.getElem?_eq_getElem KH))
   subst LG
   have hlen:((xs.take h).drop l).length=h-l:=by simp;omega
   have hcl:¬c=l:=by omega
   rw[if_neg hcl]
   have:=bG.sl (G:=G) (w:=w) (a.add (l*es')) (c-l) .sh ((xs.take h).drop l) es' (fun i=>us (l+i)) (by intro e;rw[e]at hlen;simp at hlen;omega) (by rw[hlen];omega) (by omega) (by rw[dD hs])
    (fun i hi=>by
      have:=ji (l+i) (by rw[hlen]at hi;omega)
      simpa using this) fA
    (fun x hx=>hd x (List.mem_of_mem_take (List.mem_of_mem_drop hx)))
    (by
      rw[dD hs,hlen];simp only
      have h1:l*es'+(h-l)*es'=h*es':=by rw[←Nat.add_mul];congr 1;omega
      have h2:h*es'≤xs.length*es':=Nat.mul_le_mul_right _ hh
      omega)
    (fun i hi j hj=>by
      rw[hlen]at hi
      rw[kZ hs,←Nat.add_assoc,←Nat.add_mul]
      exact hcell (l+i) (by omega) j hj)
    (fun i hi j hj=>by
      have hi':i<h-l:=by rw[hlen]at hi;exact hi
      have e:((xs.take h).drop l)[i]=xs[l+i]:=by simp
      have:=bZ (l+i) (by omega) j (by rw[e]at hj;exact hj)
      simpa[e]using this)
    (fun e=>by cases e) (fun t e=>by cases e)
   rw[hlen]at this
   exact this
  ·have:((xs.take h).drop l)=[]:=List.drop_eq_nil_of_le (by simp;omega)
   rw[this]
   exact key _ _ _ (by omega)
theorem sO{x z:AV}{lo hi mx:Option AV}{u:Value}{vl vh vm:Option Value}{t:TypeId}{es:Nat}(hx:bG G w u x)(h:eR es x lo hi mx=some z)
 (ht:(P.underlying t=some .string∧es=0)∨∃e,P.underlying t=some (.slice e)∧eU P e=some es∧es≠0)
 (rl:∀y,lo=some y→∃u,vl=some u∧bG G w u y)(nl:lo=none→vl=none)(rh:∀y,hi=some y→∃u,vh=some u∧bG G w u y)(nh:hi=none→vh=none)
 (rm:∀y,mx=some y→∃u,vm=some u∧bG G w u y)(nm:mx=none→vm=none):
 ∃r,(Instr.sliceAt t u vl vh vm).run P w=.ok r w∧bG G w r z:=by
 have Oi:es≠0→∃e,P.underlying t=some (.slice e)∧(sizeOf e).run P w=.ok es w:=by
  intro hne
  rcases ht with⟨_,h0⟩|⟨e,h1,h2,_⟩
  ·exact absurd h0 hne
  ·refine⟨e,h1,?_⟩
   simp only[eU,Option.map_eq_some_iff]at h2
   obtain⟨i,hi,rfl⟩:=h2
   simp[sizeOf,typeInfo,hi]
 have hstep:∀(a:Option Addr)(n c l hh:Nat)(e:TypeId),P.underlying t=some (.slice e)→(sizeOf e).run P w=.ok es w→(Instr.sliceBounds true n c vl vh none).run P w=.ok (l,hh,c) w→
  (Instr.sliceAt t (.slice a n c) vl vh none).run P w=.ok (.slice (if c=l then a else a.map (·.add (l*es))) (hh-l) (c-l)) w:=by
  intro a n c l hh e h1 h2 h3
  simp[Instr.sliceAt,Instr.slice,run_underlying h1,h2,h3]
 unfold eR at h
 split at h
 ·rename_i s
  split at h
  ·rename_i h0
   have hst:P.underlying t=some .string:=by
    rcases ht with⟨h1,_⟩|⟨e,_,_,h1⟩
    ·exact h1
    ·exact absurd h0 h1
   unfold vH at h
   split at h
   ·cases h
   ·rename_i hh e1
    split at h
    ·cases h
    ·rename_i l e2
     simp only[Option.some.injEq]at h
     subst h
     cases hx
     have hv:vm=none:=nm rfl
     subst hv
     have hs:(⟨s.toArray⟩:ByteArray).size=s.length:=by simp[ByteArray.size]
     obtain⟨hb,h1,h2⟩:=mE (P:=P) (sl:=false) (Nat.le_refl s.length) e1 e2 rl nl rh nh
     have e:(⟨s.toArray⟩:ByteArray).extract l hh=⟨((s.take hh).drop l).toArray⟩:=by
      apply ByteArray.ext
      apply Array.ext'
      simp[List.drop_take]
     refine⟨.string ((⟨s.toArray⟩:ByteArray).extract l hh),?_,by rw[e];exact .str _⟩
     rw[←hs]at hb
     simp only[Instr.sliceAt,Instr.slice,Sem.run_bind,run_underlying hst,Result.andThen_ok,hb,Option.isSome_none,Bool.false_eq_true,if_false]
     rfl
  ·cases h
 ·rename_i k xs
  split at h
  ·cases h
  ·rename_i hne
   obtain⟨e,h1,h2⟩:=Oi hne
   have hv:vm=none:=nm rfl
   subst hv
   unfold pN at h
   split at h
   ·cases h
   ·rename_i hh e1
    split at h
    ·cases h
    ·rename_i l e2
     have hz:∃c a,u=.slice a xs.length c∧xs.length≤c:=by
      cases hx with
      |gZ a c=>exact⟨c,a,rfl,Nat.zero_le _⟩
      |sl a c _ _ _ _ _ hc=>exact⟨c,some a,rfl,hc⟩
     obtain⟨c0,a0,hu,hc0⟩:=hz
     obtain⟨hb,hl1,LH⟩:=mE (P:=P) (sl:=true) hc0 e1 e2 rl nl rh nh
     split at h
     ·rename_i hn
      simp only[Option.some.injEq]at h
      subst h
      have KH:xs.length≤l:=by simpa using hn
      subst hu
      refine⟨_,hstep _ _ _ _ _ e h1 h2 hb,?_⟩
      have:hh-l=0:=by omega
      rw[this]
      exact .gZ _ _ _ (fun e=>by cases e) (fun t e=>by cases e)
     ·rename_i el hn
      split at h
      ·rename_i hN
       simp only[Option.some.injEq]at h
       subst h
       obtain⟨a,c,vT,hc,hr⟩:=D7 (l:=l) (h:=hh) (es:=es) hx hl1 LH (fun e' he'=>by rw[hn]at he';cases he';exact hN)
       rw[hu]at vT
       simp only[Value.slice.injEq]at vT
       obtain⟨rfl,_,rfl⟩:=vT
       subst hu
       exact⟨_,hstep _ _ _ _ _ e h1 h2 hb,hr⟩
      ·cases h
 ·rename_i k xs k' m
  split at h
  ·cases h
  ·rename_i hne
   obtain⟨e,h1,h2⟩:=Oi hne
   split at h
   ·rename_i hm
    subst hm
    split at h
    ·rename_i e1 e2
     simp only[Option.some.injEq]at h
     subst h
     obtain⟨um,rfl,W6⟩:=rm _ rfl
     cases W6
     have H:=lT (P:=P) (m':=0) e1 (Nat.le_refl 0) rh nh
     have L:=lT (P:=P) (m':=0) e2 (Nat.le_refl 0) rl nl
     rcases H with⟨_,_,e⟩|⟨uh,rfl,_,eh⟩
     ·cases e
     ·have hz:∃c a n,u=.slice a n c:=by
       cases hx with
       |gZ a c=>exact⟨c,a,_,rfl⟩
       |sl a c=>exact⟨c,some a,_,rfl⟩
      obtain⟨c,a,n,rfl⟩:=hz
      have hm:∀code,(Instr.sliceBound (.int k' 0) c code).run P w=.ok 0 w:=fun code=>by simp[Instr.sliceBound,asIntOf]
      have hb:(Instr.sliceBounds true n c vl (some uh) (some (.int k' 0))).run P w=.ok (0,0,0) w:=by
       unfold Instr.sliceBounds
       rcases L with⟨_,rfl,_⟩|⟨ul,rfl,_,el⟩
       ·simp[hm,eh]
       ·simp[hm,eh,el]
      refine⟨.slice a 0 0,?_,.gZ _ _ _ (fun _=>rfl) (fun t e=>by cases e)⟩
      simp[Instr.sliceAt,Instr.slice,run_underlying h1,h2,hb]
    ·cases h
   ·cases h
 ·rename_i k off n es'
  split at h
  ·cases h
  ·rename_i hne
   have ji:es'=es:=Classical.byContradiction fun h=>hne (.inr h)
   subst ji
   obtain⟨e,h1,h2⟩:=Oi (fun h=>hne (.inl h))
   have hv:vm=none:=nm rfl
   subst hv
   unfold p4 at h
   split at h
   ·cases h
   ·rename_i hh e1
    split at h
    ·cases h
    ·rename_i l e2
     split at h
     ·rename_i DL
      simp only[Option.some.injEq]at h
      subst h
      cases hx with
      |cY _ _ _ c _ hk hc hcm fA hcap=>
      obtain⟨hb,hl1,LH⟩:=mE (P:=P) (sl:=true) hc e1 e2 rl nl rh nh
      refine⟨_,hstep _ _ _ _ _ e h1 h2 hb,?_⟩
      rw[if_neg (by omega)]
      simp only[Option.map_some]
      rw[dD rfl]
      refine .cY _ _ _ _ _ hk (by omega) (by omega) fA ?_
      have hq:l*es'+(c-l)*es'=c*es':=by rw[←Nat.add_mul];congr 1;omega
      rw[Nat.add_assoc,hq]
      exact hcap
     ·cases h
 ·cases h
end Go.Aa
namespace Go.Aa
open Go.RowKit
variable{P:Program}{G G':aF}{w w':World}
theorem oS:∀{l:List AV}{bs:List UInt8},p0 l=some bs→∃ns:List Int,l=ns.map (AV.int .u8)∧bs=ns.map fun n=>UInt8.ofNat n.toNat
 |[],bs,h=>by simp only[p0,Option.some.injEq]at h;exact⟨[],rfl,h.symm⟩
 |x::l,bs,h=>by
  simp only[p0]at h
  split at h
  ·rename_i b bs' h1 h2
   simp only[Option.some.injEq]at h
   obtain⟨ns,rfl,rfl⟩:=oS h2
   unfold AH at h1
   split at h1
   ·rename_i n
    simp only[Option.some.injEq]at h1
    exact⟨n::ns,rfl,by rw[←h,←h1];rfl⟩
   ·cases h1
  ·cases h
theorem uA{x z:AV}{u:Value}{s d:TypeId}{k:IntKind}{ds:TypeDesc}(hx:bG G w u x)(h:eX (.int k) x=some z)(hs:P.underlying s=some ds)(hd:P.underlying d=some (.int k)):
 ∃r,(convert s d u).run P w=.ok r w∧bG G w r z:=by
 cases x<;>simp only[eX,reduceCtorEq,Option.some.injEq]at h
 subst h;cases hx
 refine⟨_,?_,.int _ _⟩
 simp[convert,run_underlying hs,run_underlying hd,Conv.intToInt]
theorem uB{x z:AV}{u:Value}{s d:TypeId}{k:IntKind}(hx:bG G w u x)(h:eX .bQ x=some z)(hs:P.underlying s=some (.int k))(hd:P.underlying d=some (.float .f64)):
 ∃r,(convert s d u).run P w=.ok r w∧bG G w r z:=by
 cases x<;>simp only[eX,reduceCtorEq,Option.some.injEq]at h
 subst h;cases hx
 refine⟨_,?_,.bQ _⟩
 simp[convert,run_underlying hs,run_underlying hd,Conv.intToFloat]
theorem uC{x z:AV}{u:Value}{s d:TypeId}(hx:bG G w u x)(h:eX .str x=some z)(hs:P.underlying s=some .string)(hd:P.underlying d=some .string):
 ∃r,(convert s d u).run P w=.ok r w∧bG G w r z:=by
 cases x<;>simp only[eX,reduceCtorEq,Option.some.injEq]at h
 subst h;cases hx
 refine⟨_,?_,.str _⟩
 simp[convert,run_underlying hs,run_underlying hd]
theorem qd{x z:AV}{u:Value}{s d e:TypeId}(hx:bG G w u x)(h:eX .bytes x=some z)(hs:P.underlying s=some (.slice e))(he:P.underlying e=some (.int .u8))(hd:P.underlying d=some .string):
 ∃r,(convert s d u).run P w=.ok r w∧bG G w r z:=by
 cases x<;>simp only[eX,reduceCtorEq,Option.map_eq_some_iff]at h
 rename_i k l
 obtain⟨bs,hb,rfl⟩:=h
 obtain⟨ns,rfl,rfl⟩:=oS hb
 rcases Nat.eq_zero_or_pos ns.length with h0|h0
 ·obtain rfl:ns=[]:=List.eq_nil_of_length_eq_zero h0
  cases hx with
  |gZ a c=>
   refine⟨.string ByteArray.empty,?_,.str []⟩
   cases a with
   |none=>simp[convert,run_underlying hs,run_underlying hd,run_underlying he,Conv.bytesToString]
   |some a=>
    obtain⟨b,o,sp⟩:=a
    simp[convert,run_underlying hs,run_underlying hd,run_underlying he,Conv.bytesToString,loadCells,loadCellsFrom]
  |sl _ _ _ _ _ _ hl=>exact absurd rfl hl
 ·obtain⟨a,c,es,us,rfl,hsp,hc,hcm,ji,fA,hlim,oO,hcell,bZ⟩:=hx.elem (i:=0) (by simpa using h0)
  have SS:es=1:=by rw[←ji 0 (by simpa using h0)];simp[AV.cells]
  subst SS
  obtain⟨b,o,sp⟩:=a
  simp only at hsp
  subst hsp
  refine⟨.string (strOfNums ns),?_,.str _⟩
  have:=run_convert_bytes_arg (P:=P) w s e hs he b o (ns.map (AV.int .u8)).length c ns (by simp) (fun i hi=> ?_) d hd
  ·exact this
  ·have hi':i<ns.length:=by simpa using hi
   have h1:=hcell i hi 0 (by omega)
   have h2:=bZ i hi 0 (by simp[AV.cells])
   simp only[List.getElem_map,AV.cells,List.getElem_cons_zero]at h2
   rw[dD rfl]at h1
   simp only[Nat.mul_one,Nat.add_zero]at h1
   cases W7:us i 0<;>rw[W7]at h2 h1<;>cases h2
   rw[h1]
   simp[hi',List.getD,List.getElem?_eq_getElem]
def fT(G:aF)(w:World)(us:List Value)(cs:List AV):Prop:=us.length=cs.length∧∀i(h1:i<us.length)(h2:i<cs.length),bG G w us[i] cs[i]
theorem fT.of{us:Array Value}{cs:List AV}(hn:us.size=cs.length)(h:∀i(h1:i<us.size)(h2:i<cs.length),bG G w us[i] cs[i]):fT G w us.toList cs:=
 ⟨by simpa using hn,fun i h1 h2=>by rw[Array.getElem_toList];exact h i (by simpa using h1) h2⟩
theorem fT.to{us:Array Value}{cs:List AV}(h:fT G w us.toList cs):us.size=cs.length∧∀i(h1:i<us.size)(h2:i<cs.length),bG G w us[i] cs[i]:=
 ⟨by simpa using h.1,fun i h1 h2=>by have:=h.2 i (by simpa using h1) h2;rwa [Array.getElem_toList]at this⟩
theorem fT.set{us:List Value}{cs:List AV}{v:Value}{x:AV}(h:fT G w us cs)(hr:bG G w v x)(o:Nat):fT G w (us.set o v) (cs.set o x):=by
 refine⟨by simpa using h.1,fun i h1 h2=> ?_⟩
 rw[List.getElem_set,List.getElem_set]
 split
 ·exact hr
 ·exact h.2 i (by simpa using h1) (by simpa using h2)
def gB(cells:List Value)(off:Nat):List Value→List Value
 |[]=>cells
 |v::vs=>gB (cells.set off v) (off+1) vs
theorem fT.dU:∀{vs:List Value}{xs:List AV}{us:List Value}{cs:List AV}{off:Nat},fT G w us cs→fT G w vs xs→fT G w (gB us off vs) (dU cs off xs)
 |[],[],_,_,_,h,_=>h
 |[],_::_,_,_,_,_,hv=>by have:=hv.1;simp at this
 |_::_,[],_,_,_,_,hv=>by have:=hv.1;simp at this
 |v::vs,x::xs,us,cs,off,h,hv=>by
  simp only[gB,Go.Aa.dU]
  have h0:bG G w v x:=hv.2 0 (by simp) (by simp)
  refine fT.dU (h.set h0 off) ⟨by simpa using hv.1,fun i h1 h2=> ?_⟩
  have:=hv.2 (i+1) (by simpa using h1) (by simpa using h2)
  simpa using this
theorem cN:∀(xs:List AV)(cs:List AV)(off:Nat),(dU cs off xs).length=cs.length
 |[],_,_=>rfl
 |x::xs,cs,off=>by simp[dU,cN xs]
theorem oT(vs:List Value):∀(cells:Array Value)(off j:Nat),((vs.zipIdx j).foldl (fun cs(p:Value×Nat)=>cs.setIfInBounds (off+p.2) p.1) cells).toList=gB cells.toList (off+j) vs:=by
 induction vs with
 |nil=>intro cells off j;rfl
 |cons v vs ih=>
  intro cells off j
  simp only[List.zipIdx_cons,List.foldl_cons,gB]
  rw[ih]
  simp[Nat.add_assoc]
theorem bG.cF{n:Nat}{v:Value}{x:AV}(h:bG G w v x)(hn:cF n x=true):v.cells.size=n∧fT G w v.cells.toList x.cells:=by
 have one:∀{v:Value}{x:AV},v.cells= #[v]→x.cells=[x]→bG G w v x→fT G w v.cells.toList x.cells:=by
  intro v x e1 e2 h
  rw[e1,e2]
  exact⟨rfl,fun i h1 h2=>by
   have:i=0:=by simpa using h2
   subst this
   exact h⟩
 cases h<;>simp only[Go.Aa.cF,Bool.false_eq_true,beq_iff_eq]at hn
 case agg us cs hl hr=>
  refine⟨?_,?_⟩
  ·show us.size=n
   omega
  ·exact fT.of hl hr
 all_goals
  refine⟨?_,one rfl rfl (by constructor<;>assumption)⟩
  rw[hn];rfl
theorem vW(place:Nat→Option (Nat×Nat)){n:Nat}{a:Act}{T:Env}(hT:dN G w n a.tmps T):∀(parts:List (Nat×Operand))(ps:List (Nat×Nat×dX))(cells:Array Value)(cs cs':List AV),
 nZ P place parts=some ps→fT G w cells.toList cs→nX cs (ps.map fun p=>(p.1,p.2.1,ev T p.2.2))=some cs'→
 ∃out,Instr.fill place cells (parts.map fun p=>(p.1,a.eval p.2))=some out∧fT G w out.toList cs'
 |[],ps,cells,cs,cs',hp,hc,h=>by
  simp only[nZ,Option.some.injEq]at hp
  subst hp
  simp only[List.map_nil,nX,Option.some.injEq]at h
  subst h
  exact⟨cells,rfl,hc⟩
 |(i,x)::parts,ps,cells,cs,cs',hp,hc,h=>by
  simp only[nZ]at hp
  split at hp
  ·rename_i o m y ys hpl hx qe
   simp only[Option.some.injEq]at hp
   subst hp
   simp only[List.map_cons,nX]at h
   split at h
   ·rename_i hok
    obtain⟨hN,hle⟩:=hok
    obtain⟨hsz,hr⟩:=bG.cF (bD hT hx) hN
    have hcl:=hc.1
    simp only[Array.length_toList]at hcl
    simp only[List.map_cons,Instr.fill,hpl]
    rw[if_neg (by simp[hsz];omega)]
    refine vW place hT parts ys _ _ _ qe ?_ h
    have e:=oT (a.eval x).cells.toList cells o 0
    rw[Nat.add_zero]at e
    have e2:(((a.eval x).cells.zipIdx.foldl (fun cs(x:Value×Nat)=>match x with|(c,j)=>cs.setIfInBounds (o+j) c) cells)).toList=gB cells.toList o (a.eval x).cells.toList:=by
     rw[←e,←Array.foldl_toList,Array.toList_zipIdx]
    rw[e2]
    exact hc.dU hr
   ·cases h
  ·cases hp
theorem yM{n:Nat}{a:Act}{T:Env}{t:TypeId}{parts:Array (Nat×Operand)}{z:List AV}{place:Nat→Option (Nat×Nat)}{ps:List (Nat×Nat×dX)}{cs:List AV}(hT:dN G w n a.tmps T)
 (hz:zeroCells P t=some z)(hpl:uo P t=some place)(hps:nZ P place parts.toList=some ps)(h:nX z (ps.map fun p=>(p.1,p.2.1,ev T p.2.2))=some cs):
 ∃r,(Instr.build t (parts.map fun(i,x)=>(i,a.eval x))).run P w=.ok r w∧bG G w r (.agg cs):=by
 unfold zeroCells at hz
 split at hz
 ·rename_i it hit
  split at hz
  ·rename_i zv Ih
   have OC:fT G w zv.cells.toList z:=by
    obtain⟨h1,h2⟩:=m6 (G:=G) (w:=w) hz
    exact⟨h1,h2⟩
   obtain⟨out,hf,ho⟩:=vW (P:=P) place hT parts.toList ps zv.cells z cs hps OC h
   obtain⟨DO,Iv⟩:=ho.to
   refine⟨.agg out,run_build w t _ out ?_,.agg _ _ DO Iv⟩
   have hl:(parts.map fun(i,x)=>(i,a.eval x)).toList=parts.toList.map fun p=>(p.1,a.eval p.2):=by simp
   rw[hl]
   unfold Program.built
   unfold uo at hpl
   split at hpl
   ·rename_i fs hfs
    split at hpl
    ·rename_i pl SU
     simp only[Option.some.injEq]at hpl
     subst hpl
     simp only[hit,hfs,Ih,SU]
     have:(fun x:Nat=>pl.toArray[x]?)=fun(i:Nat)=>pl[i]?:=by funext x;simp
     rw[this];exact hf
    ·cases hpl
   ·rename_i m e hfs
    split at hpl
    ·rename_i ie Oh
     simp only[Option.some.injEq]at hpl
     subst hpl
     simp only[hit,hfs,Ih,Oh]
     exact hf
    ·cases hpl
   ·cases hpl
  ·cases hz
 ·cases hz
end Go.Aa

