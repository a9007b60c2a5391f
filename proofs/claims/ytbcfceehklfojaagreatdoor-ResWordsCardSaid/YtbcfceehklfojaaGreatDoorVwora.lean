/-
  WHAT THE LAW LEANS ON, part 1 of 6: a machine of values and its soundness; the functions of the law upon it; what they come to.
-/
import Derived.Below
import Derived.OwnWalk
import Derived.Laws.Sem
import Derived.Laws.Cells
import Derived.Laws.Append
import Derived.Laws.Entries
import Derived.WalkKit
import Derived.KernelRfl
import Derived.Laws.Tables
import Derived.Laws.BytesArg
set_option linter.unusedVariables false
set_option linter.unusedSimpArgs false
namespace Go.Aa
inductive SK where
 |sh|full|own(t:Nat)|nil
 deriving DecidableEq,Repr
def SK.tight:SK→Bool
 |.full|.nil=>true
 |_=>false
inductive AV where
 |undef
 |bool(b:Bool)
 |int(k:IntKind)(n:Int)
 |flt(bits:Nat)
 |nan
 |str(s:List UInt8)
 |sl(k:SK)(l:List AV)
 |agg(cs:List AV)
 |tuple(vs:List AV)
 |ptr(k off:Nat)
 |ref(cs:List AV)
 |nilptr
 |func(f:FuncId)(caps:List AV)
 |nilFunc
 |iface(t:TypeId)(v:AV)
 |nilIface
 |msl(k off len es:Nat)
 |yield(l:Nat)
 deriving Inhabited
def AV.cells:AV→List AV
 |.agg cs=>cs
 |x=>[x]
inductive AV.Data:AV→Prop
 |undef:Data .undef
 |bool(b):Data (.bool b)
 |int(k n):Data (.int k n)
 |flt(b):Data (.flt b)
 |nan:Data .nan
 |str(s):Data (.str s)
 |sl(k:SK)(l)(hk:∀t,k≠.own t)(h:∀x∈l,∀y∈x.cells,Data y):Data (.sl k l)
 |agg(cs)(h:∀x∈cs,Data x):Data (.agg cs)
 |tuple(cs)(h:∀x∈cs,Data x):Data (.tuple cs)
 |ref(cs)(h:∀x∈cs,Data x):Data (.ref cs)
 |nilptr:Data .nilptr
 |func(f)(cs)(h:∀x∈cs,Data x):Data (.func f cs)
 |nilFunc:Data .nilFunc
 |iface(t x)(h:Data x):Data (.iface t x)
 |nilIface:Data .nilIface
structure Ghost where
 lim:Nat→Nat
 nb:Nat
 μ:Nat→Nat
 nt:Nat
 τ:Nat→Nat
 ext:Nat→Nat
 cap:Nat→Nat
 tes:Nat→Nat
 nl:Nat
 ln:Nat→Nat
 mc:Nat→Nat
 hole:Nat→Bool
def Ghost.on(G:Ghost)(k:Nat):Prop:=k<G.nb∧G.hole k=false
inductive Rep(G:Ghost)(w:World):Value→AV→Prop
 |undef(v:Value):Rep G w v .undef
 |bool(b:Bool):Rep G w (.bool b) (.bool b)
 |int(k:IntKind)(n:Int):Rep G w (.int k n) (.int k n)
 |flt(b:Nat):Rep G w (.float .f64 b) (.flt b)
 |nan(b:Nat)(h:(FloatKind.f64.format.read b).isNaN=true):Rep G w (.float .f64 b) .nan
 |str(s:List UInt8):Rep G w (.string ⟨s.toArray⟩) (.str s)
 |sl0(a:Option Addr)(c:Nat)(k:SK)(hc:k.tight=true→c=0)(ht:∀t,k≠.own t):Rep G w (.slice a 0 c) (.sl k [])
 |sl(a:Addr)(c:Nat)(k:SK)(l:List AV)(es:Nat)(us:Nat→Nat→Value)
   (hl:l≠[])(hc:l.length≤c)(hcm:c≤9223372036854775807)(hs:a.spot=none)(hes:∀i(hi:i<l.length),(l[i]).cells.length=es)(he0:0<es)(hd:∀x∈l,∀y∈x.cells,AV.Data y)
   (hlim:a.off+l.length*es≤G.lim a.block)
   (hcell:∀i,i<l.length→∀j,j<es→w.cell? (a.add (i*es+j))=some (us i j))
   (hrep:∀i(hi:i<l.length)j(hj:j<(l[i]).cells.length),Rep G w (us i j) ((l[i]).cells[j]))
   (hfull:k.tight=true→c=l.length)
   (hown:∀t,k=.own t→t<G.nt∧es=G.tes t∧l.length≤G.ext t∧(l.length=G.ext t→a=⟨G.τ t,0,none⟩∧c=G.cap t)):Rep G w (.slice (some a) l.length c) (.sl k l)
 |agg(us:Array Value)(cs:List AV)(hn:us.size=cs.length)(h:∀i(h1:i<us.size)(h2:i<cs.length),Rep G w us[i] cs[i]):Rep G w (.agg us) (.agg cs)
 |tuple(us:Array Value)(cs:List AV)(hn:us.size=cs.length)(h:∀i(h1:i<us.size)(h2:i<cs.length),Rep G w us[i] cs[i]):Rep G w (.tuple us) (.tuple cs)
 |ptr(k off:Nat)(hk:G.on k):Rep G w (.pointer (some ⟨G.μ k,off,none⟩)) (.ptr k off)
 |ref(a:Addr)(cs:List AV)(us:Nat→Value)(hs:a.spot=none)(hd:∀y∈cs,AV.Data y)(hlim:a.off+cs.length≤G.lim a.block)
   (hcell:∀j,j<cs.length→w.cell? (a.add j)=some (us j))(hrep:∀j(hj:j<cs.length),Rep G w (us j) cs[j]):Rep G w (.pointer (some a)) (.ref cs)
 |nilptr:Rep G w (.pointer none) .nilptr
 |func(f:FuncId)(us:Array Value)(cs:List AV)(hn:us.size=cs.length)(h:∀i(h1:i<us.size)(h2:i<cs.length),Rep G w us[i] cs[i]):Rep G w (.func (.func f) #[] us) (.func f cs)
 |nilFunc:Rep G w .nilFunc .nilFunc
 |iface(t:TypeId)(v:Value)(x:AV)(h:Rep G w v x):Rep G w (.iface t v) (.iface t x)
 |nilIface:Rep G w .nilIface .nilIface
 |msl(k off n c es:Nat)(hk:G.on k)(hc:n≤c)(hcm:c≤9223372036854775807)(he0:0<es)(hcap:off+c*es≤G.mc k):Rep G w (.slice (some ⟨G.μ k,off,none⟩) n c) (.msl k off n es)
 |yield(l:Nat)(hl:l<G.nl):Rep G w (.func (.yield (G.ln l)) #[] #[]) (.yield l)
structure Step(G:Ghost)(w:World)(G':Ghost)(w':World):Prop where
 os:w'.os=w.os
 tape:w'.tape=w.tape
 output:w'.output=w.output
 size:w.heap.size≤w'.heap.size
 lim:∀b,G.lim b≤G'.lim b
 cell:∀b off,off<G.lim b→w'.cell? ⟨b,off,none⟩=w.cell? ⟨b,off,none⟩
 nb:G.nb≤G'.nb
 hole:∀k,k<G.nb→G'.hole k=G.hole k
 μ:∀k,G.on k→G'.μ k=G.μ k
 μnew:∀k,G'.on k→(∃i,G.on i∧G'.μ k=G.μ i)∨w.heap.size≤G'.μ k
 mc:∀k,G.on k→G'.mc k=G.mc k
 nt:G.nt≤G'.nt
 ext:∀t,t<G.nt→G.ext t≤G'.ext t
 τ:∀t,t<G.nt→G'.ext t=G.ext t→G'.τ t=G.τ t∧G'.cap t=G.cap t
 tes:∀t,t<G.nt→G'.tes t=G.tes t
 τnew:∀t,t<G'.nt→(t<G.nt∧G'.τ t=G.τ t)∨w.heap.size≤G'.τ t
 nl:G.nl≤G'.nl
 ln:∀k,k<G.nl→G'.ln k=G.ln k
 lnew:∀k,G.nl≤k→k<G'.nl→w.heap.size≤G'.ln k
 frame:∀b,b<w.heap.size→(∀k,G.on k→b≠G.μ k)→(∀t,t<G.nt→b≠G.τ t)→(∀k,k<G.nl→b≠G.ln k)→w'.heap[b]?=w.heap[b]?∧G'.lim b=G.lim b
theorem Step.refl(G:Ghost)(w:World):Step G w G w:=
 ⟨rfl,rfl,rfl,Nat.le_refl _,fun _=>Nat.le_refl _,fun _ _ _=>rfl,Nat.le_refl _,fun _ _=>rfl,fun _ _=>rfl,fun k h=>.inl ⟨k,h,rfl⟩,fun _ _=>rfl,Nat.le_refl _,fun _ _=>Nat.le_refl _,
  fun _ _ _=>⟨rfl,rfl⟩,fun _ _=>rfl,fun _ h=>.inl ⟨h,rfl⟩,Nat.le_refl _,fun _ _=>rfl,fun _ h1 h2=>absurd h2 (by omega),fun _ _ _ _ _=>⟨rfl,rfl⟩⟩
theorem Step.on{G G':Ghost}{w w':World}(h:Step G w G' w'){k:Nat}(hk:G.on k):G'.on k:=⟨Nat.lt_of_lt_of_le hk.1 h.nb,(h.hole k hk.1).trans hk.2⟩
theorem Step.trans{G1 G2 G3:Ghost}{w1 w2 w3:World}(h:Step G1 w1 G2 w2)(k:Step G2 w2 G3 w3):Step G1 w1 G3 w3 where
 os:=k.os.trans h.os
 tape:=k.tape.trans h.tape
 output:=k.output.trans h.output
 size:=Nat.le_trans h.size k.size
 lim:=fun b=>Nat.le_trans (h.lim b) (k.lim b)
 cell:=fun b off ho=>(k.cell b off (Nat.lt_of_lt_of_le ho (h.lim b))).trans (h.cell b off ho)
 nb:=Nat.le_trans h.nb k.nb
 hole:=fun i hi=>(k.hole i (Nat.lt_of_lt_of_le hi h.nb)).trans (h.hole i hi)
 μ:=fun i hi=>(k.μ i (h.on hi)).trans (h.μ i hi)
 μnew:=fun i hi=>by
  rcases k.μnew i hi with⟨j,hj,e⟩|h2
  ·rcases h.μnew j hj with⟨j2,hj2,e2⟩|h3
   ·exact .inl ⟨j2,hj2,e.trans e2⟩
   ·exact .inr (by rw[e];exact h3)
  ·exact .inr (Nat.le_trans h.size h2)
 mc:=fun i hi=>(k.mc i (h.on hi)).trans (h.mc i hi)
 nt:=Nat.le_trans h.nt k.nt
 ext:=fun t ht=>Nat.le_trans (h.ext t ht) (k.ext t (Nat.lt_of_lt_of_le ht h.nt))
 τ:=fun t ht he=>by
  have h1:=h.ext t ht
  have h2:=k.ext t (Nat.lt_of_lt_of_le ht h.nt)
  have a:=h.τ t ht (by omega)
  have b:=k.τ t (Nat.lt_of_lt_of_le ht h.nt) (by omega)
  exact⟨b.1.trans a.1,b.2.trans a.2⟩
 tes:=fun t ht=>(k.tes t (Nat.lt_of_lt_of_le ht h.nt)).trans (h.tes t ht)
 τnew:=fun t ht=>by
  rcases k.τnew t ht with⟨h2,he⟩|h2
  ·rcases h.τnew t h2 with⟨h3,he3⟩|h3
   ·exact .inl ⟨h3,he.trans he3⟩
   ·exact .inr (by rw[he];exact h3)
  ·exact .inr (Nat.le_trans h.size h2)
 nl:=Nat.le_trans h.nl k.nl
 ln:=fun i hi=>(k.ln i (Nat.lt_of_lt_of_le hi h.nl)).trans (h.ln i hi)
 lnew:=fun i h1 h2=>by
  by_cases hi:i<G2.nl
  ·rw[k.ln i hi];exact h.lnew i h1 hi
  ·exact Nat.le_trans h.size (k.lnew i (by omega) h2)
 frame:=fun b hb h1 h2 h3=>by
  obtain⟨e1,e2⟩:=h.frame b hb h1 h2 h3
  obtain⟨f1,f2⟩:=k.frame b (Nat.lt_of_lt_of_le hb h.size)
   (fun i hi e=>by
     rcases h.μnew i hi with⟨j,hj,e2⟩|h4
     ·exact h1 j hj (e.trans e2)
     ·omega)
   (fun t ht e=>by
     rcases h.τnew t ht with⟨h3,he3⟩|h3
     ·exact h2 t h3 (e.trans he3)
     ·omega)
   (fun i hi e=>by
     by_cases hi':i<G1.nl
     ·exact h3 i hi' (e.trans (h.ln i hi'))
     ·have:=h.lnew i (by omega) hi;omega)
  exact⟨f1.trans e1,f2.trans e2⟩
theorem add_off{a:Addr}(hs:a.spot=none)(n:Nat):a.add n=⟨a.block,a.off+n,none⟩:=by
 unfold Addr.add
 split
 ·next h=>subst h;cases a;simp_all
 ·rfl
structure Keep(G:Ghost)(w:World)(G':Ghost)(w':World):Prop where
 lim:∀b,G.lim b≤G'.lim b
 cell:∀b off,off<G.lim b→w'.cell? ⟨b,off,none⟩=w.cell? ⟨b,off,none⟩
 nb:G.nb≤G'.nb
 on:∀k,G.on k→G'.on k
 μ:∀k,G.on k→G'.μ k=G.μ k
 nt:G.nt≤G'.nt
 ext:∀t,t<G.nt→G.ext t≤G'.ext t
 τ:∀t,t<G.nt→G'.ext t=G.ext t→G'.τ t=G.τ t∧G'.cap t=G.cap t
 tes:∀t,t<G.nt→G'.tes t=G.tes t
 nl:G.nl≤G'.nl
 ln:∀k,k<G.nl→G'.ln k=G.ln k
 mc:∀k,G.on k→G'.mc k=G.mc k
theorem Step.keep{G G':Ghost}{w w':World}(h:Step G w G' w'):Keep G w G' w':=⟨h.lim,h.cell,h.nb,fun _=>h.on,h.μ,h.nt,h.ext,h.τ,h.tes,h.nl,h.ln,h.mc⟩
theorem Rep.keep{G G':Ghost}{w w':World}(hst:Keep G w G' w'){v:Value}{x:AV}(h:Rep G w v x):Rep G' w' v x:=by
 induction h with
 |undef v=>exact .undef v
 |bool b=>exact .bool b
 |int k n=>exact .int k n
 |flt b=>exact .flt b
 |nan b h=>exact .nan b h
 |str s=>exact .str s
 |sl0 a c k hc ht=>exact .sl0 a c k hc ht
 |sl a c k l es us hl hc hcm hs hes he0 hd hlim hcell hrep hfull hown ih=>
  refine .sl a c k l es us hl hc hcm hs hes he0 hd (Nat.le_trans hlim (hst.lim _)) (fun i hi j hj=> ?_) ih hfull (fun t ht=> ?_)
  ·rw[←hcell i hi j hj,add_off hs]
   refine hst.cell _ _ ?_
   have:i*es+es≤l.length*es:=by
    have:=Nat.mul_le_mul_right es (show i+1≤l.length from hi)
    rw[Nat.add_mul]at this;omega
   omega
  ·obtain⟨h1,h0,h2,h3⟩:=hown t ht
   have hx:=hst.ext t h1
   refine⟨Nat.lt_of_lt_of_le h1 hst.nt,by rw[hst.tes t h1];exact h0,by omega,fun he=> ?_⟩
   have he':G'.ext t=G.ext t:=by omega
   obtain⟨e1,e2⟩:=h3 (by omega)
   obtain⟨f1,f2⟩:=hst.τ t h1 he'
   exact⟨by rw[f1];exact e1,by rw[f2];exact e2⟩
 |agg us cs hn h ih=>exact .agg us cs hn ih
 |tuple us cs hn h ih=>exact .tuple us cs hn ih
 |ptr k off hk=>rw[←hst.μ k hk];exact .ptr k off (hst.on k hk)
 |ref a cs us hs hd hlim hcell hrep ih=>
  refine .ref a cs us hs hd (Nat.le_trans hlim (hst.lim _)) (fun j hj=> ?_) ih
  rw[←hcell j hj,add_off hs]
  exact hst.cell _ _ (by omega)
 |nilptr=>exact .nilptr
 |func f us cs hn h ih=>exact .func f us cs hn ih
 |nilFunc=>exact .nilFunc
 |iface t v x h ih=>exact .iface t v x ih
 |nilIface=>exact .nilIface
 |msl k off n c es hk hc hcm he0 hcap=>rw[←hst.μ k hk];exact .msl k off n c es (hst.on k hk) hc hcm he0 (by rw[hst.mc k hk];exact hcap)
 |yield l hl=>rw[←hst.ln l hl];exact .yield l (Nat.lt_of_lt_of_le hl hst.nl)
theorem Rep.step{G G':Ghost}{w w':World}(hst:Step G w G' w'){v:Value}{x:AV}(h:Rep G w v x):Rep G' w' v x:=h.keep hst.keep
theorem Rep.data{G G':Ghost}{w:World}{v:Value}{x:AV}(h:Rep G w v x)(hd:x.Data)(hl:∀b,G.lim b≤G'.lim b):Rep G' w v x:=by
 induction h with
 |undef v=>exact .undef v
 |bool b=>exact .bool b
 |int k n=>exact .int k n
 |flt b=>exact .flt b
 |nan b h=>exact .nan b h
 |str s=>exact .str s
 |sl0 a c k hc ht=>exact .sl0 a c k hc ht
 |sl a c k l es us hln hc hcm hs hes he0 hd0 hlim hcell hrep hfull hown ih=>
  cases hd with
  |sl _ _ hk hdl=>
   refine .sl a c k l es us hln hc hcm hs hes he0 hd0 (Nat.le_trans hlim (hl _)) hcell (fun i hi j hj=>ih i hi j hj (hdl _ (List.getElem_mem hi) _ (List.getElem_mem hj))) hfull (fun t ht=>absurd ht (hk t))
 |agg us cs hn h ih=>cases hd with|agg _ hd=>exact .agg us cs hn fun i h1 h2=>ih i h1 h2 (hd _ (List.getElem_mem h2))
 |tuple us cs hn h ih=>cases hd with|tuple _ hd=>exact .tuple us cs hn fun i h1 h2=>ih i h1 h2 (hd _ (List.getElem_mem h2))
 |ptr k off hk=>cases hd
 |ref a cs us hs hd0 hlim hcell hrep ih=>cases hd with|ref _ hd=>exact .ref a cs us hs hd0 (Nat.le_trans hlim (hl _)) hcell fun j hj=>ih j hj (hd _ (List.getElem_mem hj))
 |nilptr=>exact .nilptr
 |func f us cs hn h ih=>cases hd with|func _ _ hd=>exact .func f us cs hn fun i h1 h2=>ih i h1 h2 (hd _ (List.getElem_mem h2))
 |nilFunc=>exact .nilFunc
 |iface t v x h ih=>cases hd with|iface _ _ hd=>exact .iface t v x (ih hd)
 |nilIface=>exact .nilIface
 |msl k off n c es hk hc hcm he0 hcap=>cases hd
 |yield l hl=>cases hd
inductive Fits(nb nt nl:Nat):AV→Prop
 |data(x:AV)(h:x.Data):Fits nb nt nl x
 |sl(k:SK)(l:List AV)(h:∀t,k=.own t→t<nt):Fits nb nt nl (.sl k l)
 |agg(cs:List AV)(h:∀x∈cs,Fits nb nt nl x):Fits nb nt nl (.agg cs)
 |tuple(cs:List AV)(h:∀x∈cs,Fits nb nt nl x):Fits nb nt nl (.tuple cs)
 |ptr(k off:Nat)(h:k<nb):Fits nb nt nl (.ptr k off)
 |func(f:FuncId)(cs:List AV)(h:∀x∈cs,Fits nb nt nl x):Fits nb nt nl (.func f cs)
 |iface(t:TypeId)(x:AV)(h:Fits nb nt nl x):Fits nb nt nl (.iface t x)
 |msl(k off n es:Nat)(h:k<nb):Fits nb nt nl (.msl k off n es)
 |yield(l:Nat)(h:l<nl):Fits nb nt nl (.yield l)
theorem Rep.fits{G:Ghost}{w:World}{v:Value}{x:AV}(h:Rep G w v x):Fits G.nb G.nt G.nl x:=by
 induction h with
 |undef v=>exact .data _ .undef
 |bool b=>exact .data _ (.bool _)
 |int k n=>exact .data _ (.int _ _)
 |flt b=>exact .data _ (.flt _)
 |nan b h=>exact .data _ .nan
 |str s=>exact .data _ (.str _)
 |sl0 a c k hc ht=>exact .sl _ _ fun t e=>absurd e (ht t)
 |sl a c k l es us hl hc hcm hs hes he0 hd hlim hcell hrep hfull hown ih=>exact .sl _ _ fun t e=>(hown t e).1
 |agg us cs hn h ih=>exact .agg _ fun x hx=>by obtain⟨i,hi,rfl⟩:=List.getElem_of_mem hx;exact ih i (by omega) hi
 |tuple us cs hn h ih=>exact .tuple _ fun x hx=>by obtain⟨i,hi,rfl⟩:=List.getElem_of_mem hx;exact ih i (by omega) hi
 |ptr k off hk=>exact .ptr _ _ hk.1
 |ref a cs us hs hd hlim hcell hrep ih=>exact .data _ (.ref _ hd)
 |nilptr=>exact .data _ .nilptr
 |func f us cs hn h ih=>exact .func _ _ fun x hx=>by obtain⟨i,hi,rfl⟩:=List.getElem_of_mem hx;exact ih i (by omega) hi
 |nilFunc=>exact .data _ .nilFunc
 |iface t v x h ih=>exact .iface _ _ ih
 |nilIface=>exact .data _ .nilIface
 |msl k off n c es hk hc hcm he0 hcap=>exact .msl _ _ _ _ hk.1
 |yield l hl=>exact .yield _ hl
theorem Rep.cut{G:Ghost}{w:World}{v:Value}{x:AV}{nb nt nl:Nat}(h:Rep G w v x)(hf:Fits nb nt nl x):Rep {G with nb:=nb,nt:=nt,nl:=nl} w v x:=by
 induction h with
 |undef v=>exact .undef v
 |bool b=>exact .bool b
 |int k n=>exact .int k n
 |flt b=>exact .flt b
 |nan b h=>exact .nan b h
 |str s=>exact .str s
 |sl0 a c k hc ht=>exact .sl0 a c k hc ht
 |sl a c k l es us hln hc hcm hs hes he0 hd0 hlim hcell hrep hfull hown ih=>
  refine .sl a c k l es us hln hc hcm hs hes he0 hd0 hlim hcell (fun i hi j hj=>ih i hi j hj (.data _ (hd0 _ (List.getElem_mem hi) _ (List.getElem_mem hj)))) hfull (fun t ht=> ?_)
  obtain⟨h1,h2⟩:=hown t ht
  refine⟨?_,h2⟩
  cases hf with
  |data _ h=>cases h with|sl _ _ hk _=>exact absurd ht (hk t)
  |sl _ _ h=>exact h t ht
 |agg us cs hn h ih=>
  refine .agg us cs hn fun i h1 h2=>ih i h1 h2 ?_
  cases hf with
  |data _ h=>cases h with|agg _ h=>exact .data _ (h _ (List.getElem_mem h2))
  |agg _ h=>exact h _ (List.getElem_mem h2)
 |tuple us cs hn h ih=>
  refine .tuple us cs hn fun i h1 h2=>ih i h1 h2 ?_
  cases hf with
  |data _ h=>cases h with|tuple _ h=>exact .data _ (h _ (List.getElem_mem h2))
  |tuple _ h=>exact h _ (List.getElem_mem h2)
 |ptr k off hk=>
  cases hf with
  |data _ h=>cases h
  |ptr _ _ h=>exact .ptr k off ⟨h,hk.2⟩
 |ref a cs us hs hd0 hlim hcell hrep ih=>exact .ref a cs us hs hd0 hlim hcell fun j hj=>ih j hj (.data _ (hd0 _ (List.getElem_mem hj)))
 |nilptr=>exact .nilptr
 |func f us cs hn h ih=>
  refine .func f us cs hn fun i h1 h2=>ih i h1 h2 ?_
  cases hf with
  |data _ h=>cases h with|func _ _ h=>exact .data _ (h _ (List.getElem_mem h2))
  |func _ _ h=>exact h _ (List.getElem_mem h2)
 |nilFunc=>exact .nilFunc
 |iface t v x h ih=>
  refine .iface t v x (ih ?_)
  cases hf with
  |data _ h=>cases h with|iface _ _ h=>exact .data _ h
  |iface _ _ h=>exact h
 |nilIface=>exact .nilIface
 |msl k off n c es hk hc hcm he0 hcap=>
  cases hf with
  |data _ h=>cases h
  |msl _ _ _ _ h=>exact .msl k off n c es ⟨h,hk.2⟩ hc hcm he0 hcap
 |yield l hl=>
  cases hf with
  |data _ h=>cases h
  |yield _ h=>exact .yield l h
theorem Fits.mono{nb nt nl nb' nt' nl':Nat}{x:AV}(h:Fits nb nt nl x)(h1:nb≤nb')(h2:nt≤nt')(h3:nl≤nl'):Fits nb' nt' nl' x:=by
 induction h with
 |data x h=>exact .data x h
 |sl k l h=>exact .sl k l fun t e=>Nat.lt_of_lt_of_le (h t e) h2
 |agg cs h ih=>exact .agg cs ih
 |tuple cs h ih=>exact .tuple cs ih
 |ptr k off h=>exact .ptr k off (by omega)
 |func f cs h ih=>exact .func f cs ih
 |iface t x h ih=>exact .iface t x ih
 |msl k off n es h=>exact .msl k off n es (by omega)
 |yield l h=>exact .yield l (by omega)
end Go.Aa
set_option linter.unusedVariables false
namespace Go.Aa
inductive Opd where
 |t(n:Nat)
 |c(v:AV)
 deriving Inhabited
abbrev Env:=Nat→AV
def upd(T:Env)(d:Nat)(v:AV):Env:=fun i=>bif i==d then v else T i
theorem upd_eq(T:Env)(d:Nat)(v:AV)(i:Nat):upd T d v i=if i=d then v else T i:=by
 unfold upd
 by_cases h:i=d
 ·rw[if_pos h,show(i==d)=true from by simpa using h];rfl
 ·rw[if_neg h,show(i==d)=false from by simpa using h];rfl
def ev(T:Env):Opd→AV
 |.t n=>T n
 |.c v=>v
inductive CV where
 |int(k:IntKind)|flt|str|bytes
 deriving DecidableEq
inductive FK where
 |i|b|s
 deriving DecidableEq
inductive NK where
 |sl|ptr|fn|ifc
 deriving DecidableEq
inductive AOp where
 |mov(x:Opd)
 |pick(c a b:Opd)
 |box(x:Opd)
 |build(zero:List AV)(parts:List (Nat×Nat×Opd))
 |bslice(es:Nat)(xs:List Opd)
 |bsliceM(es:Nat)(xs:List Opd)
 |load(agg:Bool)(n:Nat)(x:Opd)
 |store(n:Nat)(x v:Opd)
 |nilchk(x:Opd)
 |bin(op:BinOp)(x y:Opd)
 |eqst(neg:Bool)(ks:List FK)(x y:Opd)
 |eqb(neg:Bool)(x y:Opd)
 |eqnil(neg:Bool)(k:NK)(x:Opd)
 |un(op:UnOp)(x:Opd)
 |conv(c:CV)(x:Opd)
 |mkiface(t:TypeId)(x:Opd)
 |mkfunc(f:FuncId)(caps:List Opd)
 |slice(es:Nat)(x:Opd)(lo hi mx:Option Opd)
 |fld(off n:Nat)(x:Opd)
 |fldv(agg:Bool)(off n:Nat)(x:Opd)
 |idx(es:Nat)(x i:Opd)
 |idxs(x i:Opd)
 |extract(x:Opd)(i:Nat)
 |call(f:Opd)(args:List Opd)
 |callM(f:Opd)(args:List Opd)
 |len(str:Bool)(x:Opd)
 |append(es bytes:Nat)(x y:Opd)
 |appendM(es bytes:Nat)(x y:Opd)
 |makeM(es bytes:Nat)(zero:List AV)(n:Opd)
 |clearM(zero:List AV)(x:Opd)
 |mm(max:Bool)(x y:Opd)
 |panic(x:Opd)
structure AOper where
 dst:Option Nat
 op:AOp
 guard:Option (Nat×Bool)
 deps:List Nat
inductive ACode where
 |skip
 |region(ops:List AOper)(draw:Bool)
 |seq(a b:ACode)
 |cond(c:Opd)(a b:ACode)
 |block(id:Nat)(b:ACode)
 |loop(b:ACode)
 |exit(id:Nat)
 |ret
 |range(f:Opd)(ps:List Nat)(assign body:ACode)
inductive ARV where
 |tmp(t:Nat)
 |cell(t:Nat)(agg:Bool)(n:Nat)
structure AFunc where
 results:List ARV
 body:ACode
 round:Bool:=false
structure LRec where
 A:AFunc
 T:Env
 ps:List Nat
 assign:ACode
 body:ACode
 busy:Bool
 nb:Nat
 nt:Nat
 nl:Nat
structure Heap where
 boxes:List (List AV)
 toks:List Nat
 loops:List LRec
def Heap.nil:Heap:=⟨[],[],[]⟩
inductive ARes where
 |ret(v:AV)
 |pan(v:AV)
inductive Out where
 |val(v:AV)(H:Heap)
 |pan(v:AV)(H:Heap)
def shut1:AV→AV
 |.sl (.own _) l=>.sl .sh l
 |.sl .full l=>.sl .sh l
 |x=>x
def shut2:AV→AV
 |.agg cs=>.agg (cs.map shut1)
 |x=>shut1 x
def shutA:AV→AV
 |.tuple cs=>.tuple (cs.map shut2)
 |x=>shut2 x
def data0:AV→Bool
 |.bool _|.int .. |.flt _|.nan|.str _|.nilptr|.nilFunc|.nilIface=>true
 |.sl k _=>match k with|.own _|.nil=>false|_=>true
 |.ref _=>true
 |_=>false
def data1:AV→Bool
 |.agg cs=>cs.all data0
 |.func _ cs=>cs.all data0
 |x=>data0 x
def data2:AV→Bool
 |.iface _ v=>data1 v
 |x=>data1 x
def isData:AV→Bool
 |.tuple cs=>cs.all data2
 |x=>data2 x
def cellOk:AV→Bool
 |.undef|.agg _|.tuple _=>false
 |_=>true
def cellsN(n:Nat):AV→Bool
 |.undef|.tuple _=>false
 |.agg cs=>cs.length==n
 |_=>n==1
def fltOrd(a b:Option Nat):Option Ordering:=match a,b with|some x,some y=>FloatKind.f64.format.order x y|_,_=>none
def fltAr(f:Nat→Nat→Option Nat)(a b:Option Nat):Option AV:=match a,b with
 |some x,some y=>match f x y with|some z=>some (.flt z)|none=>some .nan
 |_,_=>some .nan
def fltBin(op:BinOp)(a b:Option Nat):Option AV:=
 match op with
 |.eql=>some (.bool (fltOrd a b==some .eq))
 |.neq=>some (.bool (fltOrd a b !=some .eq))
 |.lss=>some (.bool (fltOrd a b==some .lt))
 |.leq=>some (.bool (fltOrd a b==some .lt||fltOrd a b==some .eq))
 |.gtr=>some (.bool (fltOrd a b==some .gt))
 |.geq=>some (.bool (fltOrd a b==some .gt||fltOrd a b==some .eq))
 |.add=>fltAr FloatKind.f64.format.add a b
 |.sub=>fltAr FloatKind.f64.format.sub a b
 |.mul=>fltAr FloatKind.f64.format.mul a b
 |.quo=>fltAr FloatKind.f64.format.div a b
 |_=>none
def intBin(op:BinOp)(k:IntKind)(a b:Int):Option AV:=
 match op with
 |.add=>some (.int k (k.wrap (a+b)))
 |.sub=>some (.int k (k.wrap (a-b)))
 |.mul=>some (.int k (k.wrap (a*b)))
 |.quo=>if b=0 then none else some (.int k (k.wrap (a.tdiv b)))
 |.rem=>if b=0 then none else some (.int k (a.tmod b))
 |.eql=>some (.bool (a==b))
 |.neq=>some (.bool (a !=b))
 |.lss=>some (.bool (decide (a<b)))
 |.leq=>some (.bool (decide (a≤b)))
 |.gtr=>some (.bool (decide (b<a)))
 |.geq=>some (.bool (decide (b≤a)))
 |.and=>some (.int k (k.wrap (BitVec.ofInt k.bits a&&&BitVec.ofInt k.bits b).toNat))
 |.or=>some (.int k (k.wrap (BitVec.ofInt k.bits a|||BitVec.ofInt k.bits b).toNat))
 |.xor=>some (.int k (k.wrap (BitVec.ofInt k.bits a^^^BitVec.ofInt k.bits b).toNat))
 |.andNot=>some (.int k (k.wrap (BitVec.ofInt k.bits a&&& ~~~BitVec.ofInt k.bits b).toNat))
 |_=>none
def intShift(op:BinOp)(k:IntKind)(a b:Int):Option AV:=
 match op with
 |.shl=>if b<0 then none else some (.int k (k.wrap (a*2^(min b.toNat k.bits))))
 |.shr=>if b<0 then none else some (.int k (a.fdiv (2^(min b.toNat k.bits))))
 |_=>none
def strBin(op:BinOp)(a b:List UInt8):Option AV:=
 match op with
 |.add=>if a.length+b.length≤4611686018427387904 then some (.str (a++b))else none
 |.eql=>some (.bool (a==b))
 |.neq=>some (.bool (!(a==b)))
 |.lss=>some (.bool (Op.bytesLess a b))
 |.leq=>some (.bool (Op.bytesLess a b||a==b))
 |.gtr=>some (.bool (!(Op.bytesLess a b||a==b)))
 |.geq=>some (.bool (!Op.bytesLess a b))
 |_=>none
def eqLeaf:FK→AV→AV→Option Bool
 |.i,.int k a,.int k' b=>if k=k' then some (a==b)else none
 |.b,.bool a,.bool b=>some (a==b)
 |.s,.str a,.str b=>some (a==b)
 |_,_,_=>none
def eqCells:List FK→List AV→List AV→Option Bool
 |[],[],[]=>some true
 |k::ks,x::xs,y::ys=>match eqLeaf k x y,eqCells ks xs ys with
  |some a,some b=>some (a&&b)
  |_,_=>none
 |_,_,_=>none
def eqstA(neg:Bool)(ks:List FK):AV→AV→Option AV
 |.agg xs,.agg ys=>match eqCells ks xs ys with
  |some b=>some (.bool (if neg then !b else b))
  |none=>none
 |_,_=>none
def binA(op:BinOp):AV→AV→Option AV
 |.int k a,.int k' b=>
  match op with
  |.shl|.shr=>intShift op k a b
  |_=>if k=k' then intBin op k a b else none
 |.flt a,.flt b=>fltBin op (some a) (some b)
 |.nan,.flt b=>fltBin op none (some b)
 |.flt a,.nan=>fltBin op (some a) none
 |.nan,.nan=>fltBin op none none
 |.str a,.str b=>strBin op a b
 |_,_=>none
def eqbA(neg:Bool):AV→AV→Option AV
 |.bool a,.bool b=>some (.bool (if neg then !(a==b)else a==b))
 |_,_=>none
def eqnilA(neg:Bool):NK→AV→Option AV
 |.sl,.sl _ (_::_)=>some (.bool neg)
 |.sl,.msl .. =>some (.bool neg)
 |.ptr,.ptr .. =>some (.bool neg)
 |.ptr,.ref _=>some (.bool neg)
 |.ptr,.nilptr=>some (.bool !neg)
 |.fn,.func .. =>some (.bool neg)
 |.fn,.nilFunc=>some (.bool !neg)
 |.ifc,.iface .. =>some (.bool neg)
 |.ifc,.nilIface=>some (.bool !neg)
 |_,_=>none
def unA(op:UnOp):AV→Option AV
 |.bool b=>match op with|.not=>some (.bool !b)|_=>none
 |.int k n=>match op with|.neg=>some (.int k (k.wrap (0-n)))|_=>none
 |.flt b=>match op with|.neg=>some (.flt (Op.negFloat .f64 b))|_=>none
 |_=>none
def byteOfA:AV→Option UInt8
 |.int .u8 n=>some (UInt8.ofNat n.toNat)
 |_=>none
def bytesA:List AV→Option (List UInt8)
 |[]=>some []
 |x::xs=>match byteOfA x,bytesA xs with|some b,some bs=>some (b::bs)|_,_=>none
def convA:CV→AV→Option AV
 |.int k,.int _ n=>some (.int k (k.wrap n))
 |.flt,.int _ n=>some (.flt (FloatKind.f64.nearest n))
 |.str,.str s=>some (.str s)
 |.bytes,.sl _ l=>(bytesA l).map .str
 |_,_=>none
def lenA:Bool→AV→Option AV
 |true,.str s=>some (.int .i64 s.length)
 |false,.sl _ l=>some (.int .i64 l.length)
 |false,.msl _ _ n _=>some (.int .i64 n)
 |_,_=>none
def idxA(es:Nat):AV→AV→Option AV
 |.sl _ l,.int _ i=>if 0≤i then match l[i.toNat]? with
   |some e=>if cellsN es e=true then some (.ref e.cells)else none
   |none=>none
  else none
 |.msl k off n es',.int _ i=>if(0≤i∧i<n)∧es'=es then some (.ptr k (off+i.toNat*es))else none
 |_,_=>none
def idxsA:AV→AV→Option AV
 |.str s,.int _ i=>if 0≤i then match s[i.toNat]? with
   |some b=>some (.int .u8 b.toNat)
   |none=>none
  else none
 |_,_=>none
def boundA(m:Nat):Option AV→Nat→Option Nat
 |none,d=>some d
 |some (.int _ i),_=>if 0≤i∧i≤m then some i.toNat else none
 |some _,_=>none
def sliceStr(s:List UInt8)(lo hi:Option AV):Option AV:=
 match boundA s.length hi s.length with
 |none=>none
 |some h=>match boundA h lo 0 with
  |none=>none
  |some l=>some (.str ((s.take h).drop l))
def sliceSl(es:Nat)(xs:List AV)(lo hi:Option AV):Option AV:=
 match boundA xs.length hi xs.length with
 |none=>none
 |some h=>match boundA h lo 0 with
  |none=>none
  |some l=>match xs[l]? with
   |none=>some (.sl .sh [])
   |some e=>if cellsN es e=true then some (.sl .sh ((xs.take h).drop l))else none
def sliceM(es k off n:Nat)(lo hi:Option AV):Option AV:=
 match boundA n hi n with
 |none=>none
 |some h=>match boundA h lo 0 with
  |none=>none
  |some l=>if l<n then some (.msl k (off+l*es) (h-l) es)else none
def sliceA(es:Nat)(x:AV)(lo hi mx:Option AV):Option AV:=
 match x,mx with
 |.str s,none=>if es=0 then sliceStr s lo hi else none
 |.sl k xs,none=>if es=0 then none else sliceSl es xs lo hi
 |.sl k xs,some (.int k' m)=>if es=0 then none else if m=0 then(match boundA 0 hi 1,boundA 0 lo 0 with
      |some 0,some 0=>some (.sl .full [])
      |_,_=>none)else none
 |.msl k off n es',none=>if es=0∨es'≠es then none else sliceM es k off n lo hi
 |_,_=>none
def fldA(off n:Nat):AV→Option AV
 |.ptr k o=>some (.ptr k (o+off))
 |.ref cs=>if off+n≤cs.length then some (.ref ((cs.drop off).take n))else none
 |_=>none
def fldvA(agg:Bool)(off n:Nat):AV→Option AV
 |.agg cs=>if off+n≤cs.length then
   if agg then some (.agg ((cs.drop off).take n))else cs[off]?
  else none
 |_=>none
def extractA(i:Nat):AV→Option AV
 |.tuple vs=>vs[i]?
 |_=>none
def paste(cells:List AV)(off:Nat):List AV→List AV
 |[]=>cells
 |x::xs=>paste (cells.set off x) (off+1) xs
def buildA(cells:List AV):List (Nat×Nat×AV)→Option (List AV)
 |[]=>some cells
 |(off,n,v)::r=>if cellsN n v=true∧off+n≤cells.length then buildA (paste cells off v.cells) r else none
def lenOk(es:Nat)(l:List AV):Bool:=l.all (cellsN es)
def dataOk(l:List AV):Bool:=l.all fun e=>e.cells.all data0
def mmA(max:Bool):AV→AV→Option AV
 |.int k a,.int k' b=>if k=k' then some (.int k (if max then(if b>a then b else a)else(if b<a then b else a)))else none
 |_,_=>none
def loadA(agg:Bool)(n:Nat)(H:Heap):AV→Option AV
 |.ref cs=>if cs.length=n then
   if agg then some (.agg cs)else match cs with|[x]=>some x|_=>none
  else none
 |.ptr k off=>match H.boxes[k]? with
  |some cs=>if off+n≤cs.length then
    if agg then some (.agg ((cs.drop off).take n))else if n=1 then cs[off]? else none
   else none
  |none=>none
 |_=>none
def storeA(n:Nat)(H:Heap)(p v:AV):Option Heap:=
 match p with
 |.ptr k off=>match H.boxes[k]? with
  |some cs=>if off+n≤cs.length∧cellsN n v=true∧v.cells.all cellOk=true∧0<n then some {H with boxes:=H.boxes.set k (paste cs off v.cells)}else none
  |none=>none
 |_=>none
def boxA(H:Heap)(v:AV):AV×Heap:=(.ptr H.boxes.length 0,{H with boxes:=H.boxes++[v.cells]})
def appendA(es bytes:Nat)(H:Heap):AV→AV→Option (AV×Heap)
 |.sl k l,.sl _ m=>
  match m with
  |[]=>some (.sl k l,H)
  |m0::m'=>
  if(l.length+(m0::m').length)*bytes≤140737488355328∧lenOk es l=true∧lenOk es (m0::m')=true∧dataOk (m0::m')=true then
   match k with
   |.sh|.nil=>none
   |.full=>some (.sl (.own H.toks.length) (l++(m0::m')),{H with toks:=H.toks++[l.length+(m0::m').length]})
   |.own t=>if H.toks[t]?=some l.length then some (.sl (.own t) (l++(m0::m')),{H with toks:=H.toks.set t (l.length+(m0::m').length)})else none
  else none
 |_,_=>none
def unrow(es:Nat):Nat→List AV→List AV
 |0,_=>[]
 |n+1,cs=>(if es=1 then cs.headD .undef else .agg (cs.take es))::unrow es n (cs.drop es)
def rowCells(l:List AV):List AV:=l.flatMap AV.cells
def bsliceA(es:Nat)(H:Heap)(l:List AV):Option (AV×Heap):=
 match l with
 |[]=>some (.sl .full [],H)
 |x::l'=>if lenOk es (x::l')=true∧dataOk (x::l')=true then some (.msl H.boxes.length 0 (x::l').length es,{H with boxes:=H.boxes++[rowCells (x::l')]})else none
def appendMA(es bytes:Nat)(H:Heap):AV→AV→Option (AV×Heap)
 |.sl k l,.sl _ m=>
  match m with
  |[]=>some (.sl (match k,l with|.full,[]=>.nil|k,_=>k) l,H)
  |m0::m'=>
   if k.tight=true∧l=[]∧(m0::m').length*bytes≤140737488355328∧lenOk es (m0::m')=true∧dataOk (m0::m')=true then some (.msl H.boxes.length 0 (m0::m').length es,{H with boxes:=H.boxes++[rowCells (m0::m')]})else none
 |.msl k off n es',.sl _ m=>
  match m with
  |[]=>some (.msl k off n es',H)
  |m0::m'=>
   match H.boxes[k]? with
   |some cs=>
    if es'=es∧off=0∧0<n∧cs.length=n*es∧cs.all data0=true∧(n+(m0::m').length)*bytes≤140737488355328∧lenOk es (m0::m')=true∧dataOk (m0::m')=true then
     some (.msl H.boxes.length 0 (n+(m0::m').length) es,{H with boxes:=H.boxes.set k []++[cs++rowCells (m0::m')]})
    else none
   |none=>none
 |_,_=>none
def makeA(es bytes:Nat)(zero:List AV)(H:Heap):AV→Option (AV×Heap)
 |.int .i64 n=>if 0≤n∧n.toNat*bytes≤140737488355328∧zero.length=es∧0<es∧zero.all data0=true then
   if n=0 then some (.sl .sh [],H)else some (.msl H.boxes.length 0 n.toNat es,{H with boxes:=H.boxes++[(List.replicate n.toNat zero).flatten]})
  else none
 |_=>none
def clearA(zero:List AV)(H:Heap):AV→Option Heap
 |.sl _ []=>some H
 |.msl k off n es=>match H.boxes[k]? with
  |some cs=>if off+n*es≤cs.length∧zero.length=es∧0<n∧0<es∧zero.all data0=true then some {H with boxes:=H.boxes.set k (paste cs off (List.replicate n zero).flatten)}else none
  |none=>none
 |_=>none
def frz1(H:Heap):AV→Option AV
 |.msl k off n es=>match H.boxes[k]? with
  |some cs=>if off+n*es≤cs.length∧0≤n∧0<es∧cs.all data0=true then some (.sl .sh (unrow es n (cs.drop off)))else none
  |none=>none
 |.sl .nil l=>some (.sl .sh l)
 |x=>some x
def frzL(H:Heap):List AV→Option (List AV)
 |[]=>some []
 |x::xs=>match frz1 H x,frzL H xs with
  |some y,some ys=>some (y::ys)
  |_,_=>none
def frz2(H:Heap):AV→Option AV
 |.agg cs=>(frzL H cs).map .agg
 |x=>frz1 H x
def frzL2(H:Heap):List AV→Option (List AV)
 |[]=>some []
 |x::xs=>match frz2 H x,frzL2 H xs with
  |some y,some ys=>some (y::ys)
  |_,_=>none
def frzA(H:Heap):AV→Option AV
 |.tuple vs=>(frzL2 H vs).map .tuple
 |x=>frz2 H x
def in0(nb nt:Nat):AV→Bool
 |.ptr k _|.msl k _ _ _=>decide (k<nb)
 |.sl (.own t) _=>decide (t<nt)
 |.agg _|.tuple _|.func _ _|.iface _ _|.yield _=>false
 |_=>true
def in1(nb nt:Nat):AV→Bool
 |.agg cs=>cs.all (in0 nb nt)
 |.func _ cs=>cs.all (in0 nb nt)
 |x=>in0 nb nt x
def in2(nb nt:Nat):AV→Bool
 |.iface _ v=>in1 nb nt v
 |x=>in1 nb nt x
def within(nb nt:Nat):AV→Bool
 |.tuple cs=>cs.all (in2 nb nt)
 |x=>in2 nb nt x
end Go.Aa
set_option linter.unusedVariables false
set_option linter.unusedSimpArgs false
namespace Go.Aa
inductive Key where
 |fn(f:FuncId)
 |yl(l:Nat)
abbrev CallF:=Key→List AV→Heap→Option (ARes×Heap)
structure Cfg where
 F:FuncId→Option AFunc
 ext:FuncId→Option (List AV→Heap→Option (AV×Heap))
 tryF:FuncId→Bool
 stopT:TypeId
inductive OutE where
 |env(T:Env)(H:Heap)
 |pan(v:AV)(H:Heap)
inductive AIt where
 |c(c:ACode)
 |blk(id:Nat)
 |lp(b:ACode)
 |beg(l:Nat)
def pureOp(op:AOp)(T:Env):Option AV:=
 match op with
 |.mov x=>some (ev T x)
 |.pick c a b=>match ev T c with
  |.bool true=>some (ev T a)
  |.bool false=>some (ev T b)
  |_=>none
 |.build zero parts=>(buildA zero (parts.map fun p=>(p.1,p.2.1,ev T p.2.2))).map .agg
 |.bslice es xs=>if lenOk es (xs.map fun x=>shut2 (ev T x))=true∧dataOk (xs.map fun x=>shut2 (ev T x))=true then some (.sl .full (xs.map fun x=>shut2 (ev T x)))else none
 |.nilchk x=>match ev T x with
  |.ptr k o=>some (.ptr k o)
  |.ref cs=>some (.ref cs)
  |.func f cs=>some (.func f cs)
  |_=>none
 |.bin op x y=>binA op (ev T x) (ev T y)
 |.eqst neg ks x y=>eqstA neg ks (ev T x) (ev T y)
 |.eqb neg x y=>eqbA neg (ev T x) (ev T y)
 |.eqnil neg k x=>eqnilA neg k (ev T x)
 |.un op x=>unA op (ev T x)
 |.conv c x=>convA c (ev T x)
 |.mkiface t x=>some (.iface t (ev T x))
 |.mkfunc f caps=>some (.func f (caps.map (ev T)))
 |.slice es x lo hi mx=>sliceA es (ev T x) (lo.map (ev T)) (hi.map (ev T)) (mx.map (ev T))
 |.fld off n x=>fldA off n (ev T x)
 |.fldv agg off n x=>fldvA agg off n (ev T x)
 |.idx es x i=>idxA es (ev T x) (ev T i)
 |.idxs x i=>idxsA (ev T x) (ev T i)
 |.extract x i=>extractA i (ev T x)
 |.len st x=>lenA st (ev T x)
 |.mm mx x y=>mmA mx (ev T x) (ev T y)
 |_=>none
def trunc(nb nt:Nat)(v:AV)(H:Heap):Heap:=
 let okB:=H.loops.all (fun r=>decide (r.nb≤nb))&&within nb H.toks.length v&&(H.boxes.take nb).all (·.all (in2 nb H.toks.length))
 let bs:=if okB then H.boxes.take nb else H.boxes
 let okT:=H.loops.all (fun r=>decide (r.nt≤nt))&&within bs.length nt v&&bs.all (·.all (in2 bs.length nt))
 {H with boxes:=bs,toks:=if okT then H.toks.take nt else H.toks}
def dropL(nl:Nat)(H:Heap):Option Heap:=
 match H.loops[nl]? with
 |some r=>if r.busy=false∧(H.loops.take nl).all (fun r=>decide (r.nl≤nl))=true∧H.boxes.all (·.all (in2 H.boxes.length H.toks.length))=true then some {H with loops:=H.loops.take nl}else none
 |none=>none
def dropP(nl:Nat)(H:Heap):Option Heap:=
 if nl<H.loops.length∧(H.loops.take nl).all (fun r=>decide (r.nl≤nl))=true∧H.boxes.all (·.all (in2 H.boxes.length H.toks.length))=true then some {H with loops:=H.loops.take nl}else none
def callE(call:CallF)(g:FuncId)(az:List AV)(H:Heap):Option Out:=
 match call (.fn g) az H with
 |some (.ret v,H')=>some (.val (shutA v) (trunc H.boxes.length H.toks.length (shutA v) H'))
 |some (.pan v,H')=>some (.pan v (trunc H.boxes.length H.toks.length v H'))
 |none=>none
def dataOut(H:Heap)(v:AV):Option AV:=
 if isData (shutA v)=true then some (shutA v)else
 match frzA H v with
 |some u=>if isData (shutA u)=true then some (shutA u)else none
 |none=>none
def callV(call:CallF)(fv:AV)(args:List AV)(H:Heap):Option Out:=
 match fv with
 |.func g caps=>
  if(args.all isData&&caps.all data0)=true then
   match call (.fn g) (args++caps) Heap.nil with
   |some (.ret v,H1)=>match dataOut H1 v with
    |some u=>some (.val u H)
    |none=>callE call g (args++caps) H
   |some (.pan v,_)=>if isData v=true then some (.pan v H)else none
   |none=>none
  else callE call g (args++caps) H
 |.yield l=>
  match call (.yl l) args H with
  |some (.ret v,H')=>some (.val v (trunc H.boxes.length H.toks.length v H'))
  |some (.pan v,H')=>some (.pan v (trunc H.boxes.length H.toks.length v H'))
  |none=>none
 |_=>none
def callW(call:CallF)(fv:AV)(args:List AV)(H:Heap):Option Out:=
 match fv with
 |.func g caps=>
  if(args.all isData&&caps.all data0)=true then
   match call (.fn g) (args++caps) Heap.nil with
   |some (.ret v,_)=>if isData (shutA v)=true then some (.val (shutA v) H)else callE call g (args++caps) H
   |some (.pan v,_)=>if isData v=true then some (.pan v H)else none
   |none=>none
  else callE call g (args++caps) H
 |_=>none
def opStep(call:CallF)(op:AOp)(T:Env)(H:Heap):Option Out:=
 match op with
 |.bsliceM es xs=>match bsliceA es H (xs.map fun x=>shut2 (ev T x))with
  |some r=>some (.val r.1 r.2)
  |none=>none
 |.appendM es b x y=>match appendMA es b H (ev T x) (ev T y)with
  |some r=>some (.val r.1 r.2)
  |none=>none
 |.makeM es b z n=>match makeA es b z H (ev T n)with
  |some r=>some (.val r.1 r.2)
  |none=>none
 |.clearM z x=>match clearA z H (ev T x)with
  |some H'=>some (.val (.tuple []) H')
  |none=>none
 |.callM f args=>callW call (ev T f) (args.map fun x=>shutA (ev T x)) H
 |.box x=>match ev T x with
  |.undef=>none
  |.tuple _=>none
  |v=>some (.val (boxA H v).1 (boxA H v).2)
 |.load agg n x=>match loadA agg n H (ev T x)with
  |some v=>some (.val v H)
  |none=>none
 |.store n x v=>match storeA n H (ev T x) (ev T v)with
  |some H'=>some (.val .undef H')
  |none=>none
 |.append es b x y=>match appendA es b H (ev T x) (ev T y)with
  |some r=>some (.val r.1 r.2)
  |none=>none
 |.panic x=>match ev T x with
  |.iface t v=>some (.pan (.iface t v) H)
  |_=>none
 |.call f args=>callV call (ev T f) (args.map fun x=>shutA (ev T x)) H
 |op=>match pureOp op T with
  |some v=>some (.val v H)
  |none=>none
def setD(T:Env)(d:Option Nat)(v:AV):Env:=
 match d with
 |some d=>upd T d v
 |none=>T
def wantedA(o:AOper)(T:Env):Option Bool:=
 match o.guard with
 |none=>some true
 |some (g,want)=>match T g with
  |.bool b=>some (b==want)
  |.tuple []=>some false
  |_=>none
def runOps(call:CallF):List AOper→Env→Heap→Option OutE
 |[],T,H=>some (.env T H)
 |o::r,T,H=>
  match wantedA o T with
  |some true=>match opStep call o.op T H with
   |some (.val v H')=>runOps call r (setD T o.dst v) H'
   |some (.pan v H')=>some (.pan v H')
   |none=>none
  |some false=>runOps call r (setD T o.dst (.tuple [])) H
  |none=>none
def exitA(id:Nat):List AIt→Option (List AIt)
 |.blk i::k=>if i=id then some k else exitA id k
 |_::k=>exitA id k
 |[]=>none
def resA(T:Env)(H:Heap):ARV→Option AV
 |.tmp t=>some (T t)
 |.cell t agg n=>loadA agg n H (T t)
def resAll(T:Env)(H:Heap):List ARV→Option (List AV)
 |[]=>some []
 |r::rs=>match resA T H r,resAll T H rs with
  |some v,some vs=>some (v::vs)
  |_,_=>none
def retA(A:AFunc)(T:Env)(H:Heap):Option (ARes×Heap):=
 match resAll T H A.results with
 |some [v]=>some (.ret v,H)
 |some vs=>some (.ret (.tuple vs),H)
 |none=>none
def initEnv(args:List AV):Env:=fun i=>(args[i]?).getD .undef
def psetA(T:Env):List Nat→List AV→Env
 |p::ps,v::vs=>psetA (upd T p v) ps vs
 |_,_=>T
noncomputable def calm(H:Heap)(o:Option Out):Option Out:=
 open Classical in
 match o with
 |some (.val v H')=>if H'=H then some (.val v H)else none
 |_=>none
theorem calm_some{H:Heap}{o:Option Out}{out:Out}(h:calm H o=some out):∃v,o=some (.val v H)∧out=.val v H:=by
 unfold calm at h
 split at h
 ·split at h
  ·rename_i e
   subst e
   exact⟨_,rfl,by simpa using h.symm⟩
  ·cases h
 ·cases h
theorem calm_val{H:Heap}{v:AV}:calm H (some (.val v H))=some (.val v H):=by
 unfold calm;simp
noncomputable def callD(call:CallF)(fv:AV)(args:List AV)(H:Heap):Option Out:=
 match fv with
 |.func g caps=>
  if(args.all isData&&caps.all data0)=true then
   match call (.fn g) (args++caps) Heap.nil with
   |some (.ret v,H1)=>match dataOut H1 v with
    |some u=>some (.val u H)
    |none=>none
   |some (.pan v,_)=>if isData v=true then some (.pan v H)else none
   |none=>none
  else calm H (callE call g (args++caps) H)
 |_=>none
noncomputable def callDW(call:CallF)(fv:AV)(args:List AV)(H:Heap):Option Out:=
 match fv with
 |.func g caps=>
  if(args.all isData&&caps.all data0)=true then
   match call (.fn g) (args++caps) Heap.nil with
   |some (.ret v,_)=>if isData (shutA v)=true then some (.val (shutA v) H)else none
   |some (.pan v,_)=>if isData v=true then some (.pan v H)else none
   |none=>none
  else calm H (callE call g (args++caps) H)
 |_=>none
noncomputable def opStepD(call:CallF)(op:AOp)(T:Env)(H:Heap):Option Out:=
 match op with
 |.call f args=>callD call (ev T f) (args.map fun x=>shutA (ev T x)) H
 |.callM f args=>callDW call (ev T f) (args.map fun x=>shutA (ev T x)) H
 |op=>opStep call op T H
noncomputable def runD(call:CallF):Nat→List AOper→Option (Nat×AV)→Env→Heap→Option OutE
 |_,[],none,T,H=>some (.env T H)
 |_,[],some (_,v),_,H=>some (.pan v H)
 |i,o::r,none,T,H=>
  match wantedA o T with
  |some true=>match opStepD call o.op T H with
   |some (.val v H')=>runD call (i+1) r none (setD T o.dst v) H'
   |some (.pan v H')=>runD call (i+1) r (some (i,v)) T H'
   |none=>none
  |some false=>runD call (i+1) r none (setD T o.dst (.tuple [])) H
  |none=>none
 |i,o::r,some (p,x),T,H=>
  if o.deps.contains p then runD call (i+1) r (some (p,x)) T H else
  match wantedA o T with
  |some true=>match opStepD call o.op T H with
   |some (.val v H')=>runD call (i+1) r (some (p,x)) (setD T o.dst v) H'
   |_=>none
  |some false=>runD call (i+1) r (some (p,x)) (setD T o.dst (.tuple [])) H
  |none=>none
def keptOp:AOp→Option AV
 |.box (.c z)=>match z with
  |.undef=>none
  |.tuple _=>none
  |z=>if z.cells.all data0=true then some z else none
 |_=>none
def kept(o:AOper):Option AV:=match o.guard,o.dst with
 |none,some _=>keptOp o.op
 |_,_=>none
def resv:Nat→List AOper→List AOper
 |_,[]=>[]
 |k,o::r=>match kept o with
  |some _=>{o with op:=.mov (.c (.ptr k 0))}::resv (k+1) r
  |none=>o::resv k r
def resvCells:List AOper→List (List AV)
 |[]=>[]
 |o::r=>match kept o with
  |some z=>z.cells::resvCells r
  |none=>resvCells r
def roomH(H:Heap)(cs:List (List AV)):Heap:=match cs with
 |[]=>H
 |c::r=>{H with boxes:=H.boxes++c::r}
theorem roomH_eq(H:Heap)(cs:List (List AV)):roomH H cs={H with boxes:=H.boxes++cs}:=by
 cases cs with
 |nil=>simp[roomH]
 |cons c r=>rfl
noncomputable def regionA(call:CallF)(draw:Bool)(ops:List AOper)(T:Env)(H:Heap):Option OutE:=
 if draw then runD call 0 (resv H.boxes.length ops) none T (roomH H (resvCells ops))else runOps call ops T H
def rangeA(call:CallF)(fv:AV)(A:AFunc)(T:Env)(ps:List Nat)(assign body:ACode)(H:Heap):Option Out:=
 match fv with
 |.func g caps=>
  match callV call (.func g caps) [.yield H.loops.length] {H with loops:=H.loops++[⟨A,T,ps,assign,body,false,H.boxes.length,H.toks.length,H.loops.length⟩]}with
  |some (.val v H')=>match dropL H.loops.length H' with
   |some H''=>some (.val v H'')
   |none=>none
  |some (.pan v H')=>if isData v=true then match dropP H.loops.length H' with
    |some H''=>some (.pan v H'')
    |none=>none
   else none
  |none=>none
 |_=>none
theorem rangeA_inv{call:CallF}{fv:AV}{A:AFunc}{T:Env}{ps:List Nat}{a b:ACode}{H:Heap}{out:Out}(h:rangeA call fv A T ps a b H=some out):∃g caps,fv=.func g caps∧
 ((∃v H3 H4,callV call (.func g caps) [.yield H.loops.length] {H with loops:=H.loops++[⟨A,T,ps,a,b,false,H.boxes.length,H.toks.length,H.loops.length⟩]}=some (.val v H3)∧dropL H.loops.length H3=some H4∧out=.val v H4)∨
  (∃v H3 H4,callV call (.func g caps) [.yield H.loops.length] {H with loops:=H.loops++[⟨A,T,ps,a,b,false,H.boxes.length,H.toks.length,H.loops.length⟩]}=some (.pan v H3)∧isData v=true∧dropP H.loops.length H3=some H4∧out=.pan v H4)):=by
 unfold rangeA at h
 split at h
 ·refine⟨_,_,rfl,?_⟩
  split at h
  ·rename_i hc
   split at h
   ·rename_i hd
    simp only[Option.some.injEq]at h
    exact .inl ⟨_,_,_,hc,hd,h.symm⟩
   ·cases h
  ·rename_i hc
   split at h
   ·rename_i hv
    split at h
    ·rename_i hd
     simp only[Option.some.injEq]at h
     exact .inr ⟨_,_,_,hc,hv,hd,h.symm⟩
    ·cases h
   ·cases h
  ·cases h
 ·cases h
theorem rangeA_val{call:CallF}{g:FuncId}{caps:List AV}{A:AFunc}{T:Env}{ps:List Nat}{a b:ACode}{H H3 H4:Heap}{v:AV}
 (h1:callV call (.func g caps) [.yield H.loops.length] {H with loops:=H.loops++[⟨A,T,ps,a,b,false,H.boxes.length,H.toks.length,H.loops.length⟩]}=some (.val v H3))(h2:dropL H.loops.length H3=some H4):rangeA call (.func g caps) A T ps a b H=some (.val v H4):=by
 simp only[rangeA,h1,h2]
theorem rangeA_pan{call:CallF}{g:FuncId}{caps:List AV}{A:AFunc}{T:Env}{ps:List Nat}{a b:ACode}{H H3 H4:Heap}{v:AV}
 (h1:callV call (.func g caps) [.yield H.loops.length] {H with loops:=H.loops++[⟨A,T,ps,a,b,false,H.boxes.length,H.toks.length,H.loops.length⟩]}=some (.pan v H3))(hv:isData v=true)(h2:dropP H.loops.length H3=some H4):rangeA call (.func g caps) A T ps a b H=some (.pan v H4):=by
 simp only[rangeA,h1,hv,if_true,h2]
noncomputable def run(call:CallF)(A:AFunc):Nat→List AIt→Env→Heap→Option (ARes×Heap)
 |0,_,_,_=>none
 |_+1,[],T,H=>retA A T H
 |n+1,.blk _::k,T,H=>run call A n k T H
 |n+1,.lp b::k,T,H=>run call A n (.c b::.lp b::k) T H
 |n+1,.beg l::k,T,H=>
  match H.loops[l]? with
  |some r=>if r.busy=true then none else run call A n k T {H with loops:=H.loops.set l {r with busy:=true}}
  |none=>none
 |n+1,.c c::k,T,H=>
  match c with
  |.skip=>run call A n k T H
  |.seq a b=>run call A n (.c a::.c b::k) T H
  |.cond x a b=>match ev T x with
   |.bool t=>run call A n (.c (if t then a else b)::k) T H
   |_=>none
  |.block id b=>run call A n (.c b::.blk id::k) T H
  |.loop b=>run call A n (.c b::.lp b::k) T H
  |.exit id=>match exitA id k with
   |some k'=>run call A n k' T H
   |none=>none
  |.ret=>if A.round then none else retA A T H
  |.region ops draw=>match regionA call draw ops T H with
   |some (.env T' H')=>run call A n k T' H'
   |some (.pan v H')=>some (.pan v,H')
   |none=>none
  |.range f ps assign body=>
   if A.round then none else
   match rangeA call (ev T f) A T ps assign body H with
   |some (.val _ H'')=>run call A n k T H''
   |some (.pan v H'')=>some (.pan v,H'')
   |none=>none
def tryA:Option (ARes×Heap)→(stopT:TypeId)→Option (ARes×Heap)
 |some (.ret _,H),_=>some (.ret (.int .i64 0),H)
 |some (.pan (.iface t (.agg [.int .i64 e])),H),s=>if t=s then some (.ret (.int .i64 e),H)else none
 |_,_=>none
noncomputable def callN(cfg:Cfg):Nat→CallF
 |0=>fun _ _ _=>none
 |n+1=>fun key args H=>
  match key with
  |.fn f=>
   if cfg.tryF f=true then
    match args with
    |[.func g caps]=>tryA (callN cfg n (.fn g) caps H) cfg.stopT
    |_=>none
   else match cfg.ext f with
   |some g=>match g args H with
    |some r=>some (.ret r.1,r.2)
    |none=>none
   |none=>match cfg.F f with
    |some A=>run (callN cfg n) A n [.c A.body] (initEnv args) H
    |none=>none
  |.yl l=>
   match H.loops[l]? with
   |some r=>
    if args.length≠r.ps.length then none else
    match run (callN cfg n) {results:=[],body:=.skip,round:=true} n [.c r.assign,.beg l,.c r.body] (psetA r.T r.ps args) H with
    |some (.ret _,H')=>match H'.loops[l]? with
     |some r'=>some (.ret (.bool true),{H' with loops:=H'.loops.set l {r' with busy:=false}})
     |none=>none
    |some (.pan v,H')=>some (.pan v,H')
    |none=>none
   |none=>none
def Le(c c':CallF):Prop:=∀k a H r,c k a H=some r→c' k a H=some r
theorem Le.refl(c:CallF):Le c c:=fun _ _ _ _ h=>h
theorem Le.trans{a b c:CallF}(h:Le a b)(k:Le b c):Le a c:=fun _ _ _ _ x=>k _ _ _ _ (h _ _ _ _ x)
theorem callE_mono{c c':CallF}(h:Le c c'){g az H r}(e:callE c g az H=some r):callE c' g az H=some r:=by
 unfold callE at*
 split at e
 ·rename_i v H' hc;rw[h _ _ _ _ hc];exact e
 ·rename_i v H' hc;rw[h _ _ _ _ hc];exact e
 ·cases e
theorem callV_mono{c c':CallF}(h:Le c c'){fv args H r}(e:callV c fv args H=some r):callV c' fv args H=some r:=by
 unfold callV at*
 split at e
 ·split at e
  ·rename_i hd
   simp only[hd,if_true]
   split at e
   ·rename_i v H1 hc
    rw[h _ _ _ _ hc]
    simp only
    split at e
    ·exact e
    ·exact callE_mono h e
   ·rename_i v _ hc;rw[h _ _ _ _ hc];exact e
   ·cases e
  ·rename_i hd
   simp only[hd,if_false]
   exact callE_mono h e
 ·split at e
  ·rename_i v H' hc;simp only[h _ _ _ _ hc];exact e
  ·rename_i v H' hc;simp only[h _ _ _ _ hc];exact e
  ·cases e
 ·cases e
theorem callW_mono{c c':CallF}(h:Le c c'){fv args H r}(e:callW c fv args H=some r):callW c' fv args H=some r:=by
 unfold callW at*
 split at e
 ·split at e
  ·rename_i hd
   simp only[hd,if_true]
   split at e
   ·rename_i v _ hc
    rw[h _ _ _ _ hc]
    simp only
    split at e
    ·rename_i hdd;rw[if_pos hdd];exact e
    ·rename_i hdd;rw[if_neg hdd];exact callE_mono h e
   ·rename_i v _ hc;rw[h _ _ _ _ hc];exact e
   ·cases e
  ·rename_i hd
   simp only[hd,if_false]
   exact callE_mono h e
 ·cases e
theorem opStep_mono{c c':CallF}(h:Le c c'){op T H r}(e:opStep c op T H=some r):opStep c' op T H=some r:=by
 cases op<;>first|exact e|exact callV_mono h e|exact callW_mono h e
theorem runOps_mono{c c':CallF}(h:Le c c'):∀{ops T H r},runOps c ops T H=some r→runOps c' ops T H=some r
 |[],_,_,_,e=>e
 |o::ops,T,H,r,e=>by
  simp only[runOps]at*
  split at e
  ·rename_i hw
   split at e
   ·rename_i v H' ho;rw[opStep_mono h ho];exact runOps_mono h e
   ·rename_i v H' ho;rw[opStep_mono h ho];exact e
   ·cases e
  ·exact runOps_mono h e
  ·cases e
theorem callD_mono{c c':CallF}(h:Le c c'){fv args H r}(e:callD c fv args H=some r):callD c' fv args H=some r:=by
 unfold callD at*
 split at e
 ·split at e
  ·rename_i hd
   simp only[hd,if_true]
   split at e
   ·rename_i v _ hc;rw[h _ _ _ _ hc];exact e
   ·rename_i v _ hc;rw[h _ _ _ _ hc];exact e
   ·cases e
  ·rename_i hd
   simp only[hd,if_false]
   obtain⟨v,h1,rfl⟩:=calm_some e
   rw[callE_mono h h1]
   exact calm_val
 ·cases e
theorem callDW_mono{c c':CallF}(h:Le c c'){fv args H r}(e:callDW c fv args H=some r):callDW c' fv args H=some r:=by
 unfold callDW at*
 split at e
 ·split at e
  ·rename_i hd
   simp only[hd,if_true]
   split at e
   ·rename_i v _ hc;rw[h _ _ _ _ hc];exact e
   ·rename_i v _ hc;rw[h _ _ _ _ hc];exact e
   ·cases e
  ·rename_i hd
   simp only[hd,if_false]
   obtain⟨v,h1,rfl⟩:=calm_some e
   rw[callE_mono h h1]
   exact calm_val
 ·cases e
theorem opStepD_mono{c c':CallF}(h:Le c c'){op T H r}(e:opStepD c op T H=some r):opStepD c' op T H=some r:=by
 cases op<;>first|exact e|exact opStep_mono h e|exact callD_mono h e|exact callDW_mono h e
theorem runD_mono{c c':CallF}(h:Le c c'):∀{i ops p T H r},runD c i ops p T H=some r→runD c' i ops p T H=some r
 |_,[],none,_,_,_,e=>e
 |_,[],some _,_,_,_,e=>e
 |i,o::ops,none,T,H,r,e=>by
  simp only[runD]at*
  split at e
  ·split at e
   ·rename_i v H' ho;rw[opStepD_mono h ho];exact runD_mono h e
   ·rename_i v H' ho;rw[opStepD_mono h ho];exact runD_mono h e
   ·cases e
  ·exact runD_mono h e
  ·cases e
 |i,o::ops,some (p,x),T,H,r,e=>by
  simp only[runD]at*
  split at e
  ·rename_i hd;simp only[hd,if_true];exact runD_mono h e
  ·rename_i hd
   simp only[hd,if_false]
   split at e
   ·split at e
    ·rename_i v H' ho;rw[opStepD_mono h ho];exact runD_mono h e
    ·cases e
   ·exact runD_mono h e
   ·cases e
theorem regionA_mono{c c':CallF}(h:Le c c'){d ops T H r}(e:regionA c d ops T H=some r):regionA c' d ops T H=some r:=by
 unfold regionA at*
 cases d with
 |true=>exact runD_mono h e
 |false=>exact runOps_mono h e
theorem rangeA_mono{c c':CallF}(h:Le c c'){fv A T ps a b H r}(e:rangeA c fv A T ps a b H=some r):rangeA c' fv A T ps a b H=some r:=by
 obtain⟨g,caps,rfl,⟨v,H3,H4,h1,h2,rfl⟩|⟨v,H3,H4,h1,h2,h3,rfl⟩⟩:=rangeA_inv e
 ·exact rangeA_val (callV_mono h h1) h2
 ·exact rangeA_pan (callV_mono h h1) h2 h3
theorem run_mono{c c':CallF}(h:Le c c')(A:AFunc):∀(n m:Nat)(k:List AIt)(T:Env)(H:Heap)(r:ARes×Heap),n≤m→run c A n k T H=some r→run c' A m k T H=some r:=by
 intro n
 induction n with
 |zero=>intro m k T H r _ e;cases k<;>simp[run]at e
 |succ n ih=>
  intro m k T H r hm e
  obtain⟨m,rfl⟩:∃q,m=q+1:=⟨m-1,by omega⟩
  have hm':n≤m:=by omega
  cases k with
  |nil=>exact e
  |cons it k=>
   cases it with
   |blk id=>exact ih m _ _ _ _ hm' e
   |lp b=>exact ih m _ _ _ _ hm' e
   |beg l=>
    simp only[run]at*
    split at e
    ·split at e
     ·cases e
     ·rename_i hb
      simp only[hb,Bool.false_eq_true,if_false]
      exact ih m _ _ _ _ hm' e
    ·cases e
   |c c0=>
    cases c0 with
    |skip=>exact ih m _ _ _ _ hm' e
    |seq a b=>exact ih m _ _ _ _ hm' e
    |cond x a b=>
     simp only[run]at*
     split at e
     ·exact ih m _ _ _ _ hm' e
     ·cases e
    |block id b=>exact ih m _ _ _ _ hm' e
    |loop b=>exact ih m _ _ _ _ hm' e
    |exit id=>
     simp only[run]at*
     split at e
     ·exact ih m _ _ _ _ hm' e
     ·cases e
    |ret=>exact e
    |region ops d=>
     simp only[run]at*
     split at e
     ·rename_i hr;rw[regionA_mono h hr];exact ih m _ _ _ _ hm' e
     ·rename_i hr;rw[regionA_mono h hr];exact e
     ·cases e
    |range f ps a b=>
     simp only[run]at*
     split at e
     ·cases e
     ·rename_i hro
      simp only[hro]
      split at e
      ·rename_i hr
       rw[rangeA_mono h hr]
       exact ih m _ _ _ _ hm' e
      ·rename_i hr
       rw[rangeA_mono h hr]
       exact e
      ·cases e
theorem callN_mono(cfg:Cfg):∀n,Le (callN cfg n) (callN cfg (n+1)):=by
 intro n
 induction n with
 |zero=>intro k a H r e;simp[callN]at e
 |succ n ih=>
  intro k a H r e
  rw[callN]at e⊢
  cases k with
  |fn f=>
   simp only at e⊢
   split at e
   ·rename_i ht
    simp only[ht,if_true]
    split at e
    ·rename_i g caps
     revert e
     cases hc:callN cfg n (.fn g) caps H with
     |none=>intro e;simp[tryA]at e
     |some x=>intro e;rw[ih _ _ _ _ hc];exact e
    ·cases e
   ·rename_i ht
    simp only[ht,if_false]
    split at e
    ·exact e
    ·split at e
     ·exact run_mono ih _ _ _ _ _ _ _ (Nat.le_succ n) e
     ·cases e
  |yl l=>
   simp only at e⊢
   split at e
   ·rename_i rr hl
    split at e
    ·cases e
    ·rename_i hb
     simp only[hb,if_false]
     split at e
     ·rename_i hr;rw[run_mono ih _ _ _ _ _ _ _ (Nat.le_succ n) hr];exact e
     ·rename_i hr;rw[run_mono ih _ _ _ _ _ _ _ (Nat.le_succ n) hr];exact e
     ·cases e
   ·cases e
theorem callN_le(cfg:Cfg){n m:Nat}(h:n≤m):Le (callN cfg n) (callN cfg m):=by
 induction h with
 |refl=>exact .refl _
 |step _ ih=>exact ih.trans (callN_mono cfg _)
end Go.Aa
set_option linter.unusedVariables false
set_option linter.unusedSimpArgs false
namespace Go.Aa
def ofV0:Value→Option AV
 |.bool b=>some (.bool b)
 |.int k n=>some (.int k n)
 |.float .f64 b=>some (.flt b)
 |.string s=>some (.str s.data.toList)
 |.pointer none=>some .nilptr
 |.slice none 0 0=>some (.sl .full [])
 |.nilFunc=>some .nilFunc
 |.nilIface=>some .nilIface
 |_=>none
def ofVs:List Value→Option (List AV)
 |[]=>some []
 |v::vs=>match ofV0 v,ofVs vs with|some x,some xs=>some (x::xs)|_,_=>none
def ofV:Value→Option AV
 |.agg cs=>(ofVs cs.toList).map .agg
 |v=>ofV0 v
def cOpd:Operand→Option Opd
 |.tmp t=>some (.t t)
 |.const v=>(ofV v).map .c
 |.func f=>some (.c (.func f []))
 |.global _=>some (.c .undef)
def cOpds:List Operand→Option (List Opd)
 |[]=>some []
 |x::xs=>match cOpd x,cOpds xs with|some y,some ys=>some (y::ys)|_,_=>none
def cOpt:Option Operand→Option (Option Opd)
 |none=>some none
 |some x=>(cOpd x).map some
def aggT(P:Program)(t:TypeId):Option Bool:=
 match P.underlying t with
 |some (.struct _)=>some true
 |some (.array _ _)=>some true
 |some _=>some false
 |none=>none
def sizeT(P:Program)(t:TypeId):Option Nat:=(P.info? t).map (·.size)
def kindsOf(P:Program):Nat→List Field→Option (List FK)
 |_,[]=>some []
 |i,f::fs=>if f.offset=i∧f.name≠ "_" then
    match P.underlying f.type,kindsOf P (i+1) fs with
    |some (.int _),some ks=>some (.i::ks)
    |some .bool,some ks=>some (.b::ks)
    |some .string,some ks=>some (.s::ks)
    |_,_=>none
  else none
def eqKinds(P:Program)(t:TypeId):Option (List FK):=
 match P.underlying t with
 |some (.struct fs)=>if P.stoodInHeld t=false∧P.eqGuardType P.depth t=false then kindsOf P 0 fs.toList else none
 |_=>none
def binOk(P:Program)(t:TypeId):Bool:=
 match P.underlying t with
 |some (.int _)=>true
 |some (.float .f64)=>true
 |some .string=>true
 |_=>false
def boolOk(P:Program)(t:TypeId):Bool:=
 match P.underlying t with
 |some .bool=>true
 |_=>false
def nilOf(P:Program)(t:TypeId)(y:Operand):Option NK:=
 match P.underlying t,y with
 |some (.slice _),.const (.slice none _ _)=>some .sl
 |some (.pointer _),.const (.pointer none)=>some .ptr
 |some (.func ..),.const .nilFunc=>some .fn
 |some (.interface _),.const .nilIface=>some .ifc
 |_,_=>none
def fieldT(P:Program)(s:TypeId)(f:Nat):Option Field:=
 match P.underlying s with
 |some (.struct fs)=>fs[f]?
 |_=>none
def cParts(P:Program)(place:Nat→Option (Nat×Nat)):List (Nat×Operand)→Option (List (Nat×Nat×Opd))
 |[]=>some []
 |(i,x)::r=>match place i,cOpd x,cParts P place r with
  |some (o,n),some y,some ys=>some ((o,n,y)::ys)
  |_,_,_=>none
def zeroCells(P:Program)(t:TypeId):Option (List AV):=
 match P.info? t with
 |some i=>match i.zero with
  |some z=>ofVs z.cells.toList
  |none=>none
 |none=>none
def placesT(P:Program)(t:TypeId):Option (Nat→Option (Nat×Nat)):=
 match P.underlying t with
 |some (.struct fs)=>match fs.toList.mapM (fun f=>(P.info? f.type).map fun i=>(f.offset,i.size))with
  |some ps=>some fun i=>ps[i]?
  |none=>none
 |some (.array _ e)=>match P.info? e with
  |some ie=>some fun i=>some (i*ie.size,ie.size)
  |none=>none
 |_=>none
def cBin(P:Program)(op:BinOp)(t:TypeId)(x y:Opd):Option AOp:=
 if binOk P t=true then some (.bin op x y)else
 if boolOk P t=true then(match op with
  |.eql=>some (.eqb false x y)
  |.neq=>some (.eqb true x y)
  |_=>none)else
 match op,eqKinds P t with
 |.eql,some ks=>some (.eqst false ks x y)
 |.neq,some ks=>some (.eqst true ks x y)
 |_,_=>none
def sameOpd:Operand→Operand→Bool
 |.tmp a,.tmp b=>a==b
 |.const (.int k a),.const (.int k' b)=>k==k'&&a==b
 |_,_=>false
theorem sameOpd_eq:∀{x y:Operand},sameOpd x y=true→x=y
 |.tmp a,.tmp b,h=>by simp only[sameOpd,beq_iff_eq]at h;rw[h]
 |.const x,y,h=>by
  cases y<;>first|(cases x<;>simp[sameOpd]at h;done)|skip
  rename_i y
  cases x<;>cases y<;>simp_all[sameOpd]
 |.tmp _,.const _,h=>by simp[sameOpd]at h
 |.tmp _,.global _,h=>by simp[sameOpd]at h
 |.tmp _,.func _,h=>by simp[sameOpd]at h
 |.global _,y,h=>by simp[sameOpd]at h
 |.func _,y,h=>by simp[sameOpd]at h
def cOp(P:Program)(mu:Bool)(o:Op):Option AOp:=
 match o with
 |.move x=>(cOpd x).map .mov
 |.assign x=>(cOpd x).map .mov
 |.pick c a b=>match cOpd c,cOpd a,cOpd b with
  |some c,some a,some b=>some (.pick c a b)
  |_,_,_=>none
 |.alloc e=>match P.info? e with
  |some i=>match i.zero with
   |some z=>(ofV z).map fun v=>.box (.c v)
   |none=>none
  |none=>none
 |.box _ x=>(cOpd x).map .box
 |.build t parts=>match zeroCells P t,placesT P t with
  |some z,some place=>(cParts P place parts.toList).map (.build z)
  |_,_=>none
 |.buildSlice t n parts=>match P.underlying t with
  |some (.slice e)=>match sizeT P e,cOpds (parts.toList.map (·.2))with
   |some es,some xs=>if parts.toList.map (·.1)=List.range n∧0<es∧n*es≤16777216∧(P.info? e).bind (·.zero)≠none∧((P.info? e).bind (·.zero)).any (fun z=>z.cells.size==es)=true then some (if mu=true then .bsliceM es xs else .bslice es xs)else none
   |_,_=>none
  |_=>none
 |.load t a=>match aggT P t,sizeT P t,cOpd a with
  |some g,some n,some x=>some (.load g n x)
  |_,_,_=>none
 |.store t a v=>match sizeT P t,cOpd a,cOpd v with
  |some n,some x,some y=>some (.store n x y)
  |_,_,_=>none
 |.nilCheck x=>(cOpd x).map .nilchk
 |.binOp op t x y _=>match cOpd x,cOpd y with
  |some x,some y'=>match nilOf P t y with
   |some k=>(match op with
    |.eql=>some (.eqnil false k x)
    |.neq=>some (.eqnil true k x)
    |_=>none)
   |none=>cBin P op t x y'
  |_,_=>none
 |.unOp op _ x=>(cOpd x).map (.un op)
 |.convert s d x=>match P.underlying s,P.underlying d,cOpd x with
  |some _,some (.int k),some x=>some (.conv (.int k) x)
  |some (.int _),some (.float .f64),some x=>some (.conv .flt x)
  |some .string,some .string,some x=>some (.conv .str x)
  |some (.slice e),some .string,some x=>match P.underlying e with
   |some (.int .u8)=>some (.conv .bytes x)
   |_=>none
  |_,_,_=>none
 |.makeInterface t x=>match P.underlying t,cOpd x with
  |some (.interface _),_=>none
  |some _,some x=>some (.mkiface t x)
  |_,_=>none
 |.makeFunc (.func f) first caps=>if first.isEmpty=true then(cOpds caps.toList).map (.mkfunc f)else none
 |.slice t x lo hi mx=>match cOpd x,cOpt lo,cOpt hi,cOpt mx with
  |some x,some lo,some hi,some mx=>match P.underlying t with
   |some .string=>some (.slice 0 x lo hi mx)
   |some (.slice e)=>match sizeT P e with
    |some es=>if es=0 then none else some (.slice es x lo hi mx)
    |none=>none
   |_=>none
  |_,_,_,_=>none
 |.fieldAddr s x f=>match fieldT P s f,cOpd x with
  |some f,some x=>match sizeT P f.type with
   |some n=>if n=0 then none else some (.fld f.offset n x)
   |none=>none
  |_,_=>none
 |.field s x f=>match fieldT P s f,cOpd x with
  |some f,some x=>match aggT P f.type,sizeT P f.type with
   |some g,some n=>if g=false∧n≠1 then none else some (.fldv g f.offset n x)
   |_,_=>none
  |_,_=>none
 |.indexAddr t x i=>match P.underlying t,cOpd x,cOpd i with
  |some (.slice e),some x,some i=>(sizeT P e).map fun es=>.idx es x i
  |_,_,_=>none
 |.index t x i=>match P.underlying t,cOpd x,cOpd i with
  |some .string,some x,some i=>some (.idxs x i)
  |_,_,_=>none
 |.extract x i=>(cOpd x).map fun x=>.extract x i
 |.call c=>match c.callee with
  |.value f=>match cOpd f,cOpds c.args.toList with
   |some f,some az=>some (if mu=true then .callM f az else .call f az)
   |_,_=>none
  |.builtin .len=>match c.args.toList,c.argTypes.toList with
   |[x],[t]=>match P.underlying t,cOpd x with
    |some .string,some x=>some (.len true x)
    |some (.slice _),some x=>some (.len false x)
    |_,_=>none
   |_,_=>none
  |.builtin .append=>match c.args.toList,c.argTypes.toList with
   |[x,y],[t,u]=>match P.underlying t,P.underlying u,cOpd x,cOpd y with
    |some (.slice e),some (.slice _),some x,some y=>match P.info? e with
     |some i=>if 0<i.size∧0<i.bytes∧i.zero.any (fun z=>z.cells.size==i.size)=true then some (if mu=true then .appendM i.size i.bytes x y else .append i.size i.bytes x y)else none
     |none=>none
    |_,_,_,_=>none
   |_,_=>none
  |.builtin .clear=>match c.args.toList,c.argTypes.toList with
   |[x],[t]=>match P.underlying t,cOpd x with
    |some (.slice e),some x=>(zeroCells P e).map fun z=>.clearM z x
    |_,_=>none
   |_,_=>none
  |.builtin .max=>match c.args.toList with
   |[x,y]=>match cOpd x,cOpd y with
    |some x,some y=>some (.mm true x y)
    |_,_=>none
   |_=>none
  |.builtin .min=>match c.args.toList with
   |[x,y]=>match cOpd x,cOpd y with
    |some x,some y=>some (.mm false x y)
    |_,_=>none
   |_=>none
  |_=>none
 |.makeSlice t n m=>if mu=true∧sameOpd n m=true then(match P.underlying t,cOpd n with
   |some (.slice e),some n=>match P.info? e,zeroCells P e with
    |some i,some z=>if 0<i.size∧0<i.bytes∧i.zero.any (fun z=>z.cells.size==i.size)=true then some (.makeM i.size i.bytes z n)else none
    |_,_=>none
   |_,_=>none)else none
 |.panic x=>(cOpd x).map .panic
 |_=>none
inductive Cls where
 |pure|read|alloc|app|call|store|pan
 deriving DecidableEq
def clsOf:AOp→Cls
 |.box _=>.alloc
 |.bsliceM .. =>.alloc
 |.makeM .. =>.alloc
 |.appendM .. =>.store
 |.clearM .. =>.store
 |.callM .. =>.call
 |.load .. =>.read
 |.store .. =>.store
 |.append .. =>.app
 |.call .. =>.call
 |.panic _=>.pan
 |_=>.pure
def compat:Cls→Cls→Bool
 |.pan,_=>false
 |_,.pan=>false
 |.pure,_=>true
 |_,.pure=>true
 |.read,.read=>true
 |.read,.app=>true
 |.app,.read=>true
 |.read,.call=>true
 |.call,.read=>true
 |.call,.call=>true
 |.alloc,.app=>true
 |.read,.alloc=>true
 |.app,.alloc=>true
 |_,_=>false
def opdUse:Opd→List Nat
 |.t n=>[n]
 |.c _=>[]
def optUse:Option Opd→List Nat
 |some x=>opdUse x
 |none=>[]
def opUse:AOp→List Nat
 |.mov x|.box x|.load _ _ x|.nilchk x|.un _ x|.conv _ x|.mkiface _ x|.fld _ _ x|.fldv _ _ _ x|.extract x _|.len _ x|.panic x|.eqnil _ _ x=>opdUse x
 |.pick c a b=>opdUse c++opdUse a++opdUse b
 |.build _ ps=>ps.flatMap fun p=>opdUse p.2.2
 |.bslice _ xs=>xs.flatMap opdUse
 |.bsliceM _ xs=>xs.flatMap opdUse
 |.makeM _ _ _ x=>opdUse x
 |.clearM _ x=>opdUse x
 |.callM f xs=>opdUse f++xs.flatMap opdUse
 |.store _ x y|.bin _ x y|.eqst _ _ x y|.eqb _ x y|.idx _ x y|.idxs x y|.append _ _ x y|.appendM _ _ x y|.mm _ x y=>opdUse x++opdUse y
 |.mkfunc _ xs=>xs.flatMap opdUse
 |.slice _ x lo hi mx=>opdUse x++optUse lo++optUse hi++optUse mx
 |.call f xs=>opdUse f++xs.flatMap opdUse
def AOper.use(o:AOper):List Nat:=opUse o.op++(match o.guard with|some (g,_)=>[g]|none=>[])
def apartA(a b:AOper):Bool:=
 compat (clsOf a.op) (clsOf b.op)&&
 (match a.dst with|some d=> !b.use.contains d&&b.dst !=some d|none=>true)&&
 (match b.dst with|some d=> !a.use.contains d|none=>true)
def drawOk(ops:List AOper):Bool:=
 ops.zipIdx.all fun b=>b.1.deps.all (fun j=>decide (j<b.2))&&ops.zipIdx.all fun a=>decide (b.2≤a.2)||b.1.deps.contains a.2||apartA a.1 b.1
def opdOk:Opd→Bool
 |.t _=>true
 |.c v=>match v with|.ptr .. =>false|.msl .. =>false|_=>true
def storeOk(o:AOper):Bool:=match o.op with
 |.store _ x _=>opdOk x
 |.appendM _ _ x _=>opdOk x
 |.clearM _ x=>opdOk x
 |_=>true
def drawOk2(ops:List AOper):Bool:=drawOk (resv 0 ops)&&ops.all storeOk
def hard(e:Edge):Bool:=match e.ground with|.textOnly _=>false|.gcOnly _=>false|_=>true
def depsOf(acc:List (List Nat))(es:List Edge):List Nat:=
 (es.filter hard).foldl (fun s e=>(e.on::acc.getD e.on []).foldl (fun s x=>if s.contains x then s else x::s) s) []
def isLit:Op→Bool
 |.buildSlice .. =>true
 |_=>false
def moved(ops:Array Oper)(d:Nat):Bool:=ops.toList.any fun o=>match o.op with
 |.move x=>(match cOpd x with|some (.t e)=>e==d|_=>false)
 |.assign x=>(match cOpd x with|some (.t e)=>e==d|_=>false)
 |_=>false
def handed(ops:Array Oper)(d:Nat):Bool:=ops.toList.any fun o=>match o.op with
 |.call c=>(match c.callee with|.value _=>c.args.toList.any fun x=>(match cOpd x with|some (.t e)=>e==d|_=>false)|_=>false)
 |_=>false
def feeds(ops:Array Oper)(o:Oper):Bool:=isLit o.op&&(match o.dst with|some d=> !moved ops d&& !handed ops d|none=>true)
def cOper(P:Program)(mu:Bool)(nt:Nat)(ops:Array Oper)(acc:List (List Nat))(o:Oper):Option AOper:=
 if o.dst.all (fun d=>decide (d<nt))=false then none else
 match cOp P (mu&& !feeds ops o) o.op with
 |none=>none
 |some op=>match o.guard with
  |none=>some {dst:=o.dst,op,guard:=none,deps:=depsOf acc o.after.toList}
  |some (j,want)=>match(ops[j]?).bind (·.dst)with
   |some g=>some {dst:=o.dst,op,guard:=some (g,want),deps:=depsOf acc o.after.toList}
   |none=>none
def cOpers(P:Program)(mu:Bool)(nt:Nat)(ops:Array Oper):List (List Nat)→List Oper→Option (List AOper)
 |_,[]=>some []
 |acc,o::r=>match cOper P mu nt ops acc o with
  |none=>none
  |some a=>match cOpers P mu nt ops (acc++[a.deps]) r with
   |some az=>some (a::az)
   |none=>none
def AOper.bare(o:AOper):AOper:={o with deps:=[]}
def cCode(P:Program)(mu:Bool)(nt:Nat):Code→Option ACode
 |.skip=>some .skip
 |.region _ ops draw=>match cOpers P mu nt ops [] ops.toList with
  |some az=>if draw=true∧drawOk2 az=false then none else some (.region (if draw=true then az else az.map AOper.bare) draw)
  |none=>none
 |.seq a b=>match cCode P mu nt a,cCode P mu nt b with
  |some a,some b=>some (.seq a b)
  |_,_=>none
 |.cond c a b=>match cOpd c,cCode P mu nt a,cCode P mu nt b with
  |some c,some a,some b=>some (.cond c a b)
  |_,_,_=>none
 |.block id b=>(cCode P mu nt b).map (.block id)
 |.loop b=>(cCode P mu nt b).map .loop
 |.exit id=>some (.exit id)
 |.ret=>some .ret
 |.rangeFunc f ps assign body=>match cOpd f,cCode P mu nt assign,cCode P mu nt body with
  |some f,some a,some b=>if ps.toList.all (fun d=>decide (d<nt))=true then some (.range f ps.toList a b)else none
  |_,_,_=>none
 |_=>none
def cRes(P:Program):List ResultVar→Option (List ARV)
 |[]=>some []
 |.tmp t::r=>(cRes P r).map (.tmp t::·)
 |.cell t ty::r=>match aggT P ty,sizeT P ty,cRes P r with
  |some g,some n,some rs=>some (.cell t g n::rs)
  |_,_,_=>none
def cFunc(P:Program)(mu:Bool)(f:Func):Option AFunc:=
 match f.body with
 |some c=>match cCode P mu f.ntmps c,cRes P f.results.toList with
  |some b,some rs=>if(f.name== "runtime.NumGoroutine")=true then none else some {results:=rs,body:=b}
  |_,_=>none
 |none=>none
end Go.Aa
set_option linter.unusedVariables false
set_option linter.unusedSimpArgs false
namespace Go.Aa
open Go.RowKit
variable{P:Program}{G G':Ghost}{w w':World}
structure Grow(G:Ghost)(w:World)(G':Ghost)(w':World):Prop where
 g:G'={G with lim:=G'.lim}
 os:w'.os=w.os
 tape:w'.tape=w.tape
 output:w'.output=w.output
 size:w.heap.size≤w'.heap.size
 heap:∀b,b<w.heap.size→w'.heap[b]?=w.heap[b]?∧G'.lim b=G.lim b
 new:∀b,w'.heap.size≤b→G'.lim b=0
def Base(G:Ghost)(w:World):Prop:=∀b,w.heap.size≤b→G.lim b=0
theorem Grow.refl(h:Base G w):Grow G w G w:=⟨rfl,rfl,rfl,rfl,Nat.le_refl _,fun _ _=>⟨rfl,rfl⟩,h⟩
theorem Grow.base(h:Grow G w G' w'):Base G' w':=h.new
theorem Grow.trans{G1 G2 G3:Ghost}{w1 w2 w3:World}(h:Grow G1 w1 G2 w2)(k:Grow G2 w2 G3 w3):Grow G1 w1 G3 w3 where
 g:=by rw[k.g,h.g]
 os:=k.os.trans h.os
 tape:=k.tape.trans h.tape
 output:=k.output.trans h.output
 size:=Nat.le_trans h.size k.size
 heap:=fun b hb=>⟨(k.heap b (Nat.lt_of_lt_of_le hb h.size)).1.trans (h.heap b hb).1,(k.heap b (Nat.lt_of_lt_of_le hb h.size)).2.trans (h.heap b hb).2⟩
 new:=k.new
theorem Grow.step(h:Grow G w G' w')(hb:Base G w):Step G w G' w':=by
 have e:=h.g
 refine⟨h.os,h.tape,h.output,h.size,fun b=> ?_,fun b off ho=> ?_,by rw[e];exact Nat.le_refl _,fun k _=>by rw[e],fun k _=>by rw[e],fun k hk=>.inl ⟨k,by rw[e]at hk;exact hk,by rw[e]⟩,fun k _=>by rw[e],by rw[e];exact Nat.le_refl _,
  fun t _=>by rw[e];exact Nat.le_refl _,fun t _ _=>by rw[e];exact⟨rfl,rfl⟩,fun t _=>by rw[e],fun t ht=> ?_,by rw[e];exact Nat.le_refl _,fun k _=>by rw[e],fun k h1 h2=> ?_,fun b hb' _ _ _=>h.heap b hb'⟩
 ·by_cases hlt:b<w.heap.size
  ·rw[(h.heap b hlt).2];exact Nat.le_refl _
  ·rw[hb b (by omega)];exact Nat.zero_le _
 ·have hlt:b<w.heap.size:=by
   rcases Nat.lt_or_ge b w.heap.size with h'|h'
   ·exact h'
   ·rw[hb b h']at ho;omega
  unfold World.cell?
  rw[(h.heap b hlt).1]
 ·rw[e]at ht⊢;exact .inl ⟨ht,rfl⟩
 ·rw[e]at h2;simp only at h2;omega
theorem Grow.drew(hb:Base G w):Grow G w G w.drew:=⟨rfl,rfl,rfl,rfl,Nat.le_refl _,fun _ _=>⟨rfl,rfl⟩,hb⟩
def Ghost.set(G:Ghost)(b L:Nat):Ghost:={G with lim:=fun x=>if x=b then L else G.lim x}
theorem Grow.alloc(hb:Base G w)(o:Obj)(L:Nat):Grow G w (G.set w.heap.size L) (w.alloc o)where
 g:=rfl
 os:=rfl
 tape:=rfl
 output:=rfl
 size:=by simp
 heap:=fun b h=>⟨Below.heap_alloc w o b h,by simp[Ghost.set];omega⟩
 new:=fun b h=>by
  have:w.heap.size+1≤b:=by simpa using h
  simp only[Ghost.set]
  rw[if_neg (by omega)]
  exact hb b (by omega)
structure TRep(G:Ghost)(w:World)(n:Nat)(tmps:Array Value)(T:Env):Prop where
 size:n≤tmps.size
 get:∀i,Rep G w (tmps.getD i undef) (T i)
theorem TRep.step{n:Nat}{tmps:Array Value}{T:Env}(h:TRep G w n tmps T)(hst:Step G w G' w'):TRep G' w' n tmps T:=⟨h.size,fun i=>(h.get i).step hst⟩
theorem TRep.put{n d:Nat}{tmps:Array Value}{T:Env}{v:Value}{x:AV}(h:TRep G w n tmps T)(hd:d<n)(hr:Rep G w v x):TRep G w n (tmps.setIfInBounds d v) (upd T d x):=by
 refine⟨by simpa using h.size,fun i=> ?_⟩
 have hs:=h.size
 rw[upd_eq]
 split
 ·rename_i e
  subst e
  have:(tmps.setIfInBounds i v).getD i undef=v:=by simp[Array.getD,show i<tmps.size by omega]
  rw[this];exact hr
 ·rename_i e
  have:(tmps.setIfInBounds d v).getD i undef=tmps.getD i undef:=by
   simp only[Array.getD_eq_getD_getElem?]
   rw[Array.getElem?_setIfInBounds_ne (by omega)]
  rw[this];exact h.get i
theorem TRep.setD{n:Nat}{d:Option Nat}{tmps:Array Value}{df:List Deferred}{T:Env}{v:Value}{x:AV}(h:TRep G w n tmps T)(hd:d.all (fun d=>decide (d<n))=true)(hr:Rep G w v x):
 TRep G w n ((⟨tmps,df⟩:Act).put d v).tmps (setD T d x):=by
 cases d with
 |none=>exact h
 |some d=>exact h.put (by simpa using hd) hr
theorem ofV0_rep{v:Value}{x:AV}(h:ofV0 v=some x):Rep G w v x:=by
 unfold ofV0 at h
 split at h<;>simp only[Option.some.injEq,reduceCtorEq]at h<;>subst h
 ·exact .bool _
 ·exact .int _ _
 ·exact .flt _
 ·exact .str _
 ·exact .nilptr
 ·exact .sl0 _ _ _ (fun _=>rfl) (fun _ e=>by cases e)
 ·exact .nilFunc
 ·exact .nilIface
theorem ofVs_rep:∀{vs:List Value}{xs:List AV},ofVs vs=some xs→vs.length=xs.length∧∀i(h1:i<vs.length)(h2:i<xs.length),Rep G w vs[i] xs[i]
 |[],xs,h=>by
  simp only[ofVs,Option.some.injEq]at h
  subst h
  exact⟨rfl,fun i h1=>absurd h1 (by simp)⟩
 |v::vs,xs,h=>by
  simp only[ofVs]at h
  split at h
  ·rename_i x ys h1 h2
   simp only[Option.some.injEq]at h
   subst h
   obtain⟨hl,hr⟩:=ofVs_rep h2
   refine⟨by simp[hl],fun i h3 h4=> ?_⟩
   cases i with
   |zero=>exact ofV0_rep h1
   |succ i=>simpa using hr i (by simpa using h3) (by simpa using h4)
  ·cases h
theorem ofV_rep{v:Value}{x:AV}(h:ofV v=some x):Rep G w v x:=by
 unfold ofV at h
 split at h
 ·rename_i cs
  simp only[Option.map_eq_some_iff]at h
  obtain⟨xs,h1,rfl⟩:=h
  obtain⟨hl,hr⟩:=ofVs_rep (G:=G) (w:=w) h1
  exact .agg _ _ (by simpa using hl) fun i h1 h2=>by
   have:=hr i (by simpa using h1) h2
   rwa [Array.getElem_toList]at this
 ·exact ofV0_rep h
theorem cOpd_rep{n:Nat}{a:Act}{T:Env}{o:Operand}{x:Opd}(hT:TRep G w n a.tmps T)(h:cOpd o=some x):Rep G w (a.eval o) (ev T x):=by
 cases o with
 |tmp t=>simp only[cOpd,Option.some.injEq]at h;subst h;exact hT.get t
 |const v=>
  simp only[cOpd,Option.map_eq_some_iff]at h
  obtain⟨y,h1,rfl⟩:=h
  exact ofV_rep h1
 |global g=>simp only[cOpd,Option.some.injEq]at h;subst h;exact .undef _
 |func f=>simp only[cOpd,Option.some.injEq]at h;subst h;exact .func f #[] [] rfl fun i h1=>absurd h1 (by simp)
theorem cOpds_rep{n:Nat}{a:Act}{T:Env}(hT:TRep G w n a.tmps T):∀{os:List Operand}{xs:List Opd},cOpds os=some xs→os.length=xs.length∧∀i(h1:i<os.length)(h2:i<xs.length),Rep G w (a.eval os[i]) (ev T xs[i])
 |[],xs,h=>by
  simp only[cOpds,Option.some.injEq]at h
  subst h
  exact⟨rfl,fun i h1=>absurd h1 (by simp)⟩
 |o::os,xs,h=>by
  simp only[cOpds]at h
  split at h
  ·rename_i x ys h1 h2
   simp only[Option.some.injEq]at h
   subst h
   obtain⟨hl,hr⟩:=cOpds_rep hT h2
   refine⟨by simp[hl],fun i h3 h4=> ?_⟩
   cases i with
   |zero=>exact cOpd_rep hT h1
   |succ i=>simpa using hr i (by simpa using h3) (by simpa using h4)
  ·cases h
theorem eqGuard_int{op:BinOp}{t:TypeId}{x y:Operand}{k k':IntKind}{a b:Int}:(eqGuard op t x y (.int k a) (.int k' b)).run P w=.ok () w:=by cases op<;>rfl
theorem eqGuard_flt{op:BinOp}{t:TypeId}{x y:Operand}{a b:Nat}:(eqGuard op t x y (.float .f64 a) (.float .f64 b)).run P w=.ok () w:=by cases op<;>rfl
theorem eqGuard_str{op:BinOp}{t:TypeId}{x y:Operand}{a b:ByteArray}:(eqGuard op t x y (.string a) (.string b)).run P w=.ok () w:=by cases op<;>rfl
theorem eqGuard_bool{op:BinOp}{t:TypeId}{x y:Operand}{a b:Bool}:(eqGuard op t x y (.bool a) (.bool b)).run P w=.ok () w:=by cases op<;>rfl
theorem run_intBin{op:BinOp}{k:IntKind}{a b:Int}{z:AV}{t:TypeId}(h:intBin op k a b=some z):∃r,(binOp op t (.int k a) (.int k b)).run P w=.ok r w∧Rep G w r z:=by
 cases op<;>simp only[intBin,Option.some.injEq,reduceCtorEq]at h
 all_goals first
  |(subst h;exact⟨_,by simp only[binOp,Op.intArith,Op.intCmp,Op.intBits,ne_eq,not_true,if_false,not_false_eq_true];rfl,by first|exact .int _ _|exact .bool _⟩)
  |(split at h
    ·cases h
    ·rename_i hb
     simp only[Option.some.injEq]at h
     subst h
     exact⟨_,by simp only[binOp,Op.intDiv,ne_eq,not_true,if_false,not_false_eq_true,hb];rfl,.int _ _⟩)
theorem run_intShift{op:BinOp}{k k':IntKind}{a b:Int}{z:AV}{t:TypeId}(h:intShift op k a b=some z):∃r,(binOp op t (.int k a) (.int k' b)).run P w=.ok r w∧Rep G w r z:=by
 cases op<;>simp only[intShift,reduceCtorEq]at h
 all_goals
  split at h
  ·cases h
  ·rename_i hb
   simp only[Option.some.injEq]at h
   subst h
   exact⟨_,by simp only[binOp,Op.shift,hb,if_false];rfl,.int _ _⟩
theorem toList_mk(s:List UInt8):(⟨s.toArray⟩:ByteArray).toList=s:=by
 exact ByteArray.toList_mk s
theorem run_strBin{op:BinOp}{a b:List UInt8}{z:AV}{t:TypeId}(h:strBin op a b=some z):∃r,(binOp op t (.string ⟨a.toArray⟩) (.string ⟨b.toArray⟩)).run P w=.ok r w∧Rep G w r z:=by
 have sa:(⟨a.toArray⟩:ByteArray).size=a.length:=by simp[ByteArray.size]
 have sb:(⟨b.toArray⟩:ByteArray).size=b.length:=by simp[ByteArray.size]
 cases op<;>simp only[strBin,reduceCtorEq]at h
 case add=>
  split at h
  ·rename_i hle
   simp only[Option.some.injEq]at h
   subst h
   have hx:¬((((⟨a.toArray⟩:ByteArray).size+(⟨b.toArray⟩:ByteArray).size:Nat):Int)>IntKind.i64.max):=by
    rw[sa,sb];have:IntKind.i64.max=9223372036854775807:=by decide
    rw[this];omega
   refine⟨.string (⟨a.toArray⟩++⟨b.toArray⟩),by simp only[binOp,Op.stringOp,hx,if_false];rfl,?_⟩
   have e:((⟨a.toArray⟩:ByteArray)++⟨b.toArray⟩)=⟨(a++b).toArray⟩:=by
    apply ByteArray.ext;simp
   rw[e];exact .str _
  ·cases h
 all_goals
  simp only[Option.some.injEq]at h
  subst h
  exact⟨_,by simp only[binOp,Op.stringOp,toList_mk];rfl,.bool _⟩
theorem forced_nanBits(x y:Nat):(Question.nanBits .f64 x y).forced=false:=rfl
theorem nanBits_nan(x y t:Nat):(FloatKind.f64.format.read ((Question.nanBits .f64 x y).cut t)).isNaN=true:=by
 have hc:(Question.nanBits .f64 x y).cut t=(t%2)*2^63+0x7ff0000000000000+1+(t/2)%(2^52-1):=rfl
 rw[hc]
 have h1:(t/2)%(2^52-1)<2^52-1:=Nat.mod_lt _ (by decide)
 have h2:t%2<2:=Nat.mod_lt _ (by decide)
 generalize(t/2)%(2^52-1)=m at*
 generalize t%2=s at*
 have hw:FloatKind.f64.format.signWeight=2^63:=by decide
 have hbn:FloatKind.f64.format.binade=2^52:=by decide
 have hir:FloatKind.f64.format.infRung=0x7ff0000000000000:=by decide
 unfold Ieee.Format.read
 simp only[hw,hbn,hir]
 have hr:(s*2^63+0x7ff0000000000000+1+m)%2^63=0x7ff0000000000000+1+m:=by omega
 rw[hr]
 rw[if_neg (by omega),if_neg (by omega),if_neg (by omega)]
 rfl
theorem order_nan_l{a b:Nat}(h:(FloatKind.f64.format.read a).isNaN=true):FloatKind.f64.format.order a b=none:=by
 unfold Ieee.Format.order
 cases hd:FloatKind.f64.format.read a<;>rw[hd]at h<;>simp[Ieee.Datum.isNaN]at h
 rfl
theorem order_nan_r{a b:Nat}(h:(FloatKind.f64.format.read b).isNaN=true):FloatKind.f64.format.order a b=none:=by
 unfold Ieee.Format.order
 cases hd:FloatKind.f64.format.read b<;>rw[hd]at h<;>simp[Ieee.Datum.isNaN]at h
 cases FloatKind.f64.format.read a<;>rfl
theorem sum_nan_l{x y:Ieee.Datum}(h:x.isNaN=true):x.sum y=none:=by
 cases x<;>simp[Ieee.Datum.isNaN]at h
 rfl
theorem sum_nan_r{x y:Ieee.Datum}(h:y.isNaN=true):x.sum y=none:=by
 cases y<;>simp[Ieee.Datum.isNaN]at h
 cases x<;>rfl
theorem prod_nan_l{x y:Ieee.Datum}(h:x.isNaN=true):x.product y=none:=by
 cases x<;>simp[Ieee.Datum.isNaN]at h
 rfl
theorem prod_nan_r{x y:Ieee.Datum}(h:y.isNaN=true):x.product y=none:=by
 cases y<;>simp[Ieee.Datum.isNaN]at h
 cases x<;>rfl
theorem quo_nan_l{n:Nat}{x y:Ieee.Datum}(h:x.isNaN=true):Ieee.Datum.quotient n x y=none:=by
 cases x<;>simp[Ieee.Datum.isNaN]at h
 rfl
theorem quo_nan_r{n:Nat}{x y:Ieee.Datum}(h:y.isNaN=true):Ieee.Datum.quotient n x y=none:=by
 cases y<;>simp[Ieee.Datum.isNaN]at h
 cases x<;>rfl
theorem opp_nan{x:Ieee.Datum}(h:x.isNaN=true):x.opposite.isNaN=true:=by
 cases x<;>simp[Ieee.Datum.isNaN]at h
 rfl
inductive FRep:Nat→Option Nat→Prop
 |bits(b:Nat):FRep b (some b)
 |nan(b:Nat)(h:(FloatKind.f64.format.read b).isNaN=true):FRep b none
theorem run_arith(f:Nat→Nat→Option Nat)(op:BinOp)(a b:Nat)(hf:∀w:World,(Op.floatArith op .f64 a b).run P w=(match f a b with
 |some r=>Result.ok (Value.float .f64 r) w
 |none=>.ok (.float .f64 ((Question.nanBits .f64 a b).cut (w.tape w.drawn (.nanBits .f64 a b)))) w.drew))
 (hb:Base G w){z:AV}(hz:(match f a b with|some r=>AV.flt r|none=>AV.nan)=z):∃r w',(Op.floatArith op .f64 a b).run P w=.ok r w'∧Grow G w G w'∧Rep G w' r z:=by
 rw[hf]
 subst hz
 cases f a b with
 |some r=>exact⟨_,_,rfl,.refl hb,.flt r⟩
 |none=>exact⟨_,_,rfl,.drew hb,.nan _ (nanBits_nan _ _ _)⟩
theorem run_floatArith(op:BinOp)(f:Nat→Nat→Option Nat)(hop:(op=.add∧f=FloatKind.f64.format.add)∨(op=.sub∧f=FloatKind.f64.format.sub)∨(op=.mul∧f=FloatKind.f64.format.mul)∨(op=.quo∧f=FloatKind.f64.format.div))(a b:Nat)(w:World):
 (Op.floatArith op .f64 a b).run P w=(match f a b with
   |some r=>Result.ok (Value.float .f64 r) w
   |none=>.ok (.float .f64 ((Question.nanBits .f64 a b).cut (w.tape w.drawn (.nanBits .f64 a b)))) w.drew):=by
 rcases hop with⟨rfl,rfl⟩|⟨rfl,rfl⟩|⟨rfl,rfl⟩|⟨rfl,rfl⟩<;>simp only[Op.floatArith,Sem.run_bind,Sem.run_pure,Result.andThen]
 ·cases FloatKind.f64.format.add a b<;>first|rfl|(simp[forced_nanBits];done)
 ·cases FloatKind.f64.format.sub a b<;>first|rfl|(simp[forced_nanBits];done)
 ·cases FloatKind.f64.format.mul a b<;>first|rfl|(simp[forced_nanBits];done)
 ·cases FloatKind.f64.format.div a b<;>first|rfl|(simp[forced_nanBits];done)
theorem fnone{a b:Nat}{x y:Option Nat}(hx:FRep a x)(hy:FRep b y)(hn:x=none∨y=none):
 FloatKind.f64.format.order a b=none∧FloatKind.f64.format.add a b=none∧FloatKind.f64.format.sub a b=none∧FloatKind.f64.format.mul a b=none∧FloatKind.f64.format.div a b=none:=by
 rcases hn with rfl|rfl
 ·cases hx with
  |nan h=>exact⟨order_nan_l h,by simp[Ieee.Format.add,sum_nan_l h],by simp[Ieee.Format.sub,sum_nan_l h],by simp[Ieee.Format.mul,prod_nan_l h],by simp[Ieee.Format.div,quo_nan_l h]⟩
 ·cases hy with
  |nan h=>exact⟨order_nan_r h,by simp[Ieee.Format.add,sum_nan_r h],by simp[Ieee.Format.sub,sum_nan_r (opp_nan h)],by simp[Ieee.Format.mul,prod_nan_r h],by simp[Ieee.Format.div,quo_nan_r h]⟩
theorem run_fltBin{op:BinOp}{a b:Nat}{x y:Option Nat}{z:AV}{t:TypeId}(hb:Base G w)(hx:FRep a x)(hy:FRep b y)(h:fltBin op x y=some z):
 ∃r w',(binOp op t (.float .f64 a) (.float .f64 b)).run P w=.ok r w'∧Grow G w G w'∧Rep G w' r z:=by
 have ho:fltOrd x y=FloatKind.f64.format.order a b:=by
  cases hx with
  |bits=>
   cases hy with
   |bits=>rfl
   |nan hn=>exact(order_nan_r hn).symm
  |nan hn=>exact(order_nan_l hn).symm
 have ha:∀f:Nat→Nat→Option Nat,(x=none∨y=none→f a b=none)→fltAr f x y=some (match f a b with|some r=>AV.flt r|none=>AV.nan):=by
  intro f hf
  cases hx with
  |bits=>
   cases hy with
   |bits=>show(match f a b with|some z=>some (AV.flt z)|none=>some AV.nan)=_;cases f a b<;>rfl
   |nan hn=>rw[hf (.inr rfl)];rfl
  |nan hn=>rw[hf (.inl rfl)];unfold fltAr;rfl
 have hn:=fun hh=>fnone hx hy hh
 cases op<;>simp only[fltBin,reduceCtorEq]at h
 case add=>
  rw[ha _ (fun hh=>(hn hh).2.1)]at h
  obtain⟨r,w',h1,h2,h3⟩:=run_arith (P:=P) FloatKind.f64.format.add .add a b (run_floatArith .add _ (.inl ⟨rfl,rfl⟩) a b) hb (Option.some.inj h)
  exact⟨r,w',by simp only[binOp];exact h1,h2,h3⟩
 case sub=>
  rw[ha _ (fun hh=>(hn hh).2.2.1)]at h
  obtain⟨r,w',h1,h2,h3⟩:=run_arith (P:=P) FloatKind.f64.format.sub .sub a b (run_floatArith .sub _ (.inr (.inl ⟨rfl,rfl⟩)) a b) hb (Option.some.inj h)
  exact⟨r,w',by simp only[binOp];exact h1,h2,h3⟩
 case mul=>
  rw[ha _ (fun hh=>(hn hh).2.2.2.1)]at h
  obtain⟨r,w',h1,h2,h3⟩:=run_arith (P:=P) FloatKind.f64.format.mul .mul a b (run_floatArith .mul _ (.inr (.inr (.inl ⟨rfl,rfl⟩))) a b) hb (Option.some.inj h)
  exact⟨r,w',by simp only[binOp];exact h1,h2,h3⟩
 case quo=>
  rw[ha _ (fun hh=>(hn hh).2.2.2.2)]at h
  obtain⟨r,w',h1,h2,h3⟩:=run_arith (P:=P) FloatKind.f64.format.div .quo a b (run_floatArith .quo _ (.inr (.inr (.inr ⟨rfl,rfl⟩))) a b) hb (Option.some.inj h)
  exact⟨r,w',by simp only[binOp];exact h1,h2,h3⟩
 all_goals
  rw[ho]at h
  simp only[Option.some.injEq]at h
  subst h
  exact⟨_,w,by simp only[binOp,Op.floatCmp];rfl,.refl hb,.bool _⟩
def aggD:TypeDesc→Bool
 |.struct _=>true
 |.array _ _=>true
 |_=>false
theorem run_part_plain{t:TypeId}{d:TypeDesc}{us:Array Value}{o:Nat}{v:Value}(ht:P.underlying t=some d)(hd:aggD d=false)(h:us[o]?=some v):
 (part t us o).run P w=.ok v w:=by
 unfold part
 have:(isAgg t).run P w=.ok false w:=by
  unfold isAgg
  cases d<;>first|(simp[run_underlying ht];done)|(simp[aggD]at hd;done)
 simp[this,h]
theorem eqFields_run{us vs:Array Value}{X Y:List AV}{d:Nat}(hu:us.size=X.length)(hv:vs.size=Y.length)
 (hx:∀i(h1:i<us.size)(h2:i<X.length),Rep G w us[i] X[i])(hy:∀i(h1:i<vs.size)(h2:i<Y.length),Rep G w vs[i] Y[i]):
 ∀(fs:List Field)(ks:List FK)(i:Nat)(b:Bool),kindsOf P i fs=some ks→eqCells ks (X.drop i) (Y.drop i)=some b→(Op.eqFields (d+1) us vs fs).run P w=.ok b w:=by
 intro fs
 induction fs with
 |nil=>
  intro ks i b hk h
  simp only[kindsOf,Option.some.injEq]at hk
  subst hk
  generalize X.drop i=X' at h
  generalize Y.drop i=Y' at h
  cases X'<;>cases Y'<;>simp only[eqCells,reduceCtorEq,Option.some.injEq]at h
  subst h;rfl
 |cons f fs ih=>
  intro ks i b hk h
  simp only[kindsOf]at hk
  split at hk
  ·rename_i hf
   obtain⟨ho,hn⟩:=hf
   have key:∀(k:FK)(ks':List FK),kindsOf P (i+1) fs=some ks'→eqCells (k::ks') (X.drop i) (Y.drop i)=some b→
    (∃dd,P.underlying f.type=some dd∧aggD dd=false)→
    (∀x y u v c,Rep G w u x→Rep G w v y→eqLeaf k x y=some c→(Op.equalIn (d+1) f.type u v).run P w=.ok c w)→
    (Op.eqFields (d+1) us vs (f::fs)).run P w=.ok b w:=by
    intro k ks' hks h⟨dd,hdd,hagg⟩hleaf
    generalize hX:X.drop i=X' at h
    generalize hY:Y.drop i=Y' at h
    cases X' with
    |nil=>simp[eqCells]at h
    |cons x xs=>
     cases Y' with
     |nil=>simp[eqCells]at h
     |cons y ys=>
      simp only[eqCells]at h
      split at h
      ·rename_i a c hl hr
       simp only[Option.some.injEq]at h
       subst h
       have hix:i<X.length:=by
        rcases Nat.lt_or_ge i X.length with h'|h'
        ·exact h'
        ·rw[List.drop_eq_nil_of_le h']at hX;cases hX
       have hiy:i<Y.length:=by
        rcases Nat.lt_or_ge i Y.length with h'|h'
        ·exact h'
        ·rw[List.drop_eq_nil_of_le h']at hY;cases hY
       rw[List.drop_eq_getElem_cons hix]at hX
       rw[List.drop_eq_getElem_cons hiy]at hY
       obtain⟨e1,e2⟩:=List.cons.inj hX
       obtain⟨e3,e4⟩:=List.cons.inj hY
       have r1:=run_part_plain (P:=P) (w:=w) (us:=us) (o:=f.offset) (v:=us[i]'(by omega)) hdd hagg (by rw[ho];exact Array.getElem?_eq_getElem _)
       have r2:=run_part_plain (P:=P) (w:=w) (us:=vs) (o:=f.offset) (v:=vs[i]'(by omega)) hdd hagg (by rw[ho];exact Array.getElem?_eq_getElem _)
       have r3:=hleaf x y _ _ a (e1▸hx i (by omega) hix) (e3▸hy i (by omega) hiy) hl
       have r4:=ih ks' (i+1) c hks (by rw[e2,e4];exact hr)
       simp only[Op.eqFields,ne_eq,hn,not_false_eq_true,if_true,Sem.run_bind,r1,r2,r3,Result.andThen_ok]
       cases a
       ·simp
       ·simpa using r4
      ·cases h
   split at hk
   ·rename_i kk ks' hu' hks
    simp only[Option.some.injEq]at hk
    subst hk
    refine key _ _ hks h ⟨_,hu',rfl⟩ fun x y u v c rx ry hl=> ?_
    cases x<;>cases y<;>simp only[eqLeaf,reduceCtorEq]at hl
    split at hl
    ·rename_i hkk
     simp only[Option.some.injEq]at hl
     subst hl;subst hkk
     cases rx;cases ry
     exact run_equalIn_int w d f.type _ _ _ _ hu'
    ·cases hl
   ·rename_i ks' hu' hks
    simp only[Option.some.injEq]at hk
    subst hk
    refine key _ _ hks h ⟨_,hu',rfl⟩ fun x y u v c rx ry hl=> ?_
    cases x<;>cases y<;>simp only[eqLeaf,reduceCtorEq,Option.some.injEq]at hl
    subst hl
    cases rx;cases ry
    exact run_equalIn_bool' w d f.type _ _ hu'
   ·rename_i ks' hu' hks
    simp only[Option.some.injEq]at hk
    subst hk
    refine key _ _ hks h ⟨_,hu',rfl⟩ fun x y u v c rx ry hl=> ?_
    cases x<;>cases y<;>simp only[eqLeaf,reduceCtorEq,Option.some.injEq]at hl
    subst hl
    cases rx;cases ry
    rw[run_equalIn_string w d f.type _ _ hu',ByteArray.toList_mk,ByteArray.toList_mk]
   ·cases hk
  ·cases hk
theorem run_eqst{neg:Bool}{ks:List FK}{x y z:AV}{u v:Value}{t:TypeId}{ox oy:Operand}(hk:eqKinds P t=some ks)(hx:Rep G w u x)(hy:Rep G w v y)(h:eqstA neg ks x y=some z):
 ∃r,(do eqGuard (if neg then .neq else .eql) t ox oy u v;binOp (if neg then .neq else .eql) t u v:Sem Value).run P w=.ok r w∧Rep G w r z:=by
 unfold eqstA at h
 split at h
 ·rename_i xs ys
  split at h
  ·rename_i b hb
   simp only[Option.some.injEq]at h
   subst h
   cases hx with
   |agg us _ hu hrx=>
   cases hy with
   |agg vs _ hv hry=>
   unfold eqKinds at hk
   split at hk
   ·rename_i fs hfs
    split at hk
    ·rename_i hp
     have hfo:P.fieldsOf t=fs:=by simp[Program.fieldsOf,hfs]
     have e1:=eqFields_run (P:=P) (d:=9998) hu hv hrx hry fs.toList ks 0 b hk (by simpa using hb)
     have e2:=run_equalIn_agg (P:=P) w 9999 t us vs (by rw[hfo];exact hfs) hp.1
     rw[hfo,e1]at e2
     refine⟨.bool (if neg then !b else b),?_,.bool _⟩
     cases neg
     ·simp only[Sem.run_bind,Bool.false_eq_true,if_false,run_eqGuard_agg w _ t ox oy us vs hp.2,Result.andThen_ok,run_eql_struct,e2]
     ·simp only[Sem.run_bind,if_true,run_eqGuard_agg w _ t ox oy us vs hp.2,Result.andThen_ok,run_neq_struct,e2]
    ·cases hk
   ·cases hk
  ·cases h
 ·cases h
end Go.Aa
set_option linter.unusedVariables false
set_option linter.unusedSimpArgs false
namespace Go.Aa
open Go.RowKit
variable{P:Program}{G G':Ghost}{w w':World}
theorem run_un{op:UnOp}{x z:AV}{u:Value}(hx:Rep G w u x)(h:unA op x=some z):∃r,(Op.unary op u).run P w=.ok r w∧Rep G w r z:=by
 cases x<;>simp only[unA,reduceCtorEq]at h<;>cases op<;>simp only[Option.some.injEq,reduceCtorEq]at h<;>subst h<;>cases hx
 ·exact⟨_,rfl,.bool _⟩
 ·exact⟨_,rfl,.int _ _⟩
 ·exact⟨_,rfl,.flt _⟩
theorem run_len{st:Bool}{x z:AV}{u:Value}{t ty:TypeId}(hx:Rep G w u x)(h:lenA st x=some z)(ht:if st then P.underlying t=some .string else∃e,P.underlying t=some (.slice e)):
 ∃r,(Builtin.len_ #[t] ty #[u]).run P w=.ok r w∧Rep G w r z:=by
 cases st<;>cases x<;>simp only[lenA,reduceCtorEq,Option.some.injEq]at h<;>subst h
 ·obtain⟨e,ht⟩:=ht
  rename_i k l
  have hr:∀a n c,(Builtin.len_ #[t] ty #[.slice a n c]).run P w=.ok (.int .i64 n) w:=by
   intro a n c
   simp[Builtin.len_,run_underlying ht,goInt]
  cases hx with
  |sl0=>exact⟨_,hr _ _ _,.int _ _⟩
  |sl=>exact⟨_,hr _ _ _,.int _ _⟩
 ·obtain⟨e,ht⟩:=ht
  have hr:∀a n c,(Builtin.len_ #[t] ty #[.slice a n c]).run P w=.ok (.int .i64 n) w:=by
   intro a n c
   simp[Builtin.len_,run_underlying ht,goInt]
  cases hx
  exact⟨_,hr _ _ _,.int _ _⟩
 ·rename_i s
  cases hx
  have hs:(⟨s.toArray⟩:ByteArray).size=s.length:=by simp[ByteArray.size]
  have ht':P.underlying t=some .string:=ht
  refine⟨.int .i64 s.length,?_,.int _ _⟩
  rw[←hs]
  simp only[Builtin.len_,List.getElem?_toArray,List.getElem?_cons_zero,Sem.run_bind,run_underlying ht',Result.andThen_ok,goInt]
  rfl
theorem Rep.elem{u:Value}{k:SK}{l:List AV}{i:Nat}(hx:Rep G w u (.sl k l))(hi:i<l.length):
 ∃(a:Addr)(c es:Nat)(us:Nat→Nat→Value),u=.slice (some a) l.length c∧a.spot=none∧l.length≤c∧c≤9223372036854775807∧(∀j(hj:j<l.length),(l[j]).cells.length=es)∧0<es∧a.off+l.length*es≤G.lim a.block∧
  (∀x∈l,∀y∈x.cells,AV.Data y)∧(∀i,i<l.length→∀j,j<es→w.cell? (a.add (i*es+j))=some (us i j))∧(∀i(hi:i<l.length)j(hj:j<(l[i]).cells.length),Rep G w (us i j) ((l[i]).cells[j])):=by
 cases hx with
 |sl0=>simp at hi
 |sl a c k l es us hl hc hcm hs hes he0 hd hlim hcell hrep hfull hown=>exact⟨a,c,es,us,rfl,hs,hc,hcm,hes,he0,hlim,hd,hcell,hrep⟩
theorem cells_of_N{n:Nat}{x:AV}(h:cellsN n x=true):x.cells.length=n:=by
 cases x<;>simp[cellsN]at h<;>simp[AV.cells,h]
theorem row_le{i n es:Nat}(h:i<n):i*es+es≤n*es:=by
 have:=Nat.mul_le_mul_right es (show i+1≤n from h)
 rw[Nat.add_mul]at this;omega
theorem add_add_off{a:Addr}(hs:a.spot=none)(m n:Nat):(a.add m).add n=a.add (m+n):=by
 rw[add_off hs,add_off rfl,add_off hs]
 simp[Nat.add_assoc]
theorem idx_ref{u:Value}{k:SK}{l:List AV}{i es:Nat}{e:AV}(hx:Rep G w u (.sl k l))(hi:l[i]?=some e)(he:cellsN es e=true):
 ∃(a:Addr)(c:Nat),u=.slice (some a) l.length c∧Rep G w (.pointer (some (a.add (i*es)))) (.ref e.cells):=by
 obtain⟨hlt,hie⟩:=List.getElem?_eq_some_iff.1 hi
 obtain⟨a,c,es',us,rfl,hs,hc,hcm,hes,he0,hlim,hd,hcell,hrep⟩:=hx.elem hlt
 have hes':es'=es:=by rw[←hes i hlt,hie];exact cells_of_N he
 subst hes'
 have hcl:e.cells.length=es':=cells_of_N he
 have hr:=row_le (es:=es') hlt
 refine⟨a,c,rfl,.ref _ _ (us i) (by rw[add_off hs]) (fun y hy=>hd e (hie▸List.getElem_mem hlt) y hy) ?_ (fun j hj=> ?_) (fun j hj=> ?_)⟩
 ·rw[add_off hs,hcl];simp only;omega
 ·rw[add_add_off hs];exact hcell i hlt j (by omega)
 ·have:=hrep i hlt j (by rw[hie];exact hj)
  simp only[hie]at this
  exact this
theorem run_idx{x y z:AV}{u v:Value}{t e:TypeId}{es:Nat}(hx:Rep G w u x)(hy:Rep G w v y)(h:idxA es x y=some z)(ht:P.underlying t=some (.slice e))(he:sizeT P e=some es):
 ∃r,(Instr.indexAt t u v).run P w=.ok r w∧Rep G w r z:=by
 have hsz:(sizeOf e).run P w=.ok es w:=by
  simp only[sizeT,Option.map_eq_some_iff]at he
  obtain⟨i,hi,rfl⟩:=he
  simp[sizeOf,typeInfo,hi]
 have hel:P.elem t=e:=by simp[Program.elem,ht]
 unfold idxA at h
 split at h
 ·rename_i k l kk i
  split at h
  ·rename_i h0
   split at h
   ·rename_i el hel'
    split at h
    ·rename_i hN
     simp only[Option.some.injEq]at h
     subst h
     obtain⟨a,c,rfl,hr⟩:=idx_ref hx hel' hN
     cases hy
     obtain⟨hlt,_⟩:=List.getElem?_eq_some_iff.1 hel'
     refine⟨_,?_,hr⟩
     rw[run_indexAt_slice _ _ _ _ _ _ _ (by rw[hel];exact ht),if_pos ⟨h0,by omega⟩,hel,hsz]
     rfl
    ·cases h
   ·cases h
  ·cases h
 ·rename_i k off n es' kk i
  split at h
  ·rename_i h0
   obtain⟨h0,rfl⟩:=h0
   simp only[Option.some.injEq]at h
   subst h
   cases hx with
   |msl _ _ _ c _ hk hc hcm he0 hcap=>
   cases hy
   refine⟨_,?_,.ptr k (off+i.toNat*es') hk⟩
   rw[run_indexAt_slice _ _ _ _ _ _ _ (by rw[hel];exact ht),if_pos h0,hel,hsz]
   simp only[Result.andThen_ok]
   rw[add_off rfl]
  ·cases h
 ·cases h
theorem run_idxs{x y z:AV}{u v:Value}{t:TypeId}(hx:Rep G w u x)(hy:Rep G w v y)(h:idxsA x y=some z)(ht:P.underlying t=some .string):
 ∃r,(Instr.index t u v).run P w=.ok r w∧Rep G w r z:=by
 unfold idxsA at h
 split at h
 ·rename_i s kk i
  split at h
  ·rename_i h0
   split at h
   ·rename_i b hb
    simp only[Option.some.injEq]at h
    subst h
    cases hx;cases hy
    refine⟨.int .u8 b.toNat,?_,.int _ _⟩
    have:(⟨s.toArray⟩:ByteArray)[i.toNat]?=some b:=by
     obtain⟨hlt,he⟩:=List.getElem?_eq_some_iff.1 hb
     have hlt':i.toNat<(⟨s.toArray⟩:ByteArray).size:=by simpa[ByteArray.size]using hlt
     rw[getElem?_pos (⟨s.toArray⟩:ByteArray) i.toNat hlt']
     simp[←he,ByteArray.getElem_eq_getElem_data]
    simp[Instr.index,asIntOf,run_underlying ht,h0,this]
   ·cases h
  ·cases h
 ·cases h
theorem run_fld{x z:AV}{u:Value}{s:TypeId}{i n:Nat}{f:Field}(hx:Rep G w u x)(h:fldA f.offset n x=some z)(hf:fieldT P s i=some f)(hn:sizeT P f.type=some n)(h0:n≠0):
 ∃r,(Instr.fieldAt s u i).run P w=.ok r w∧Rep G w r z:=by
 have hsz:(sizeOf f.type).run P w=.ok n w:=by
  simp only[sizeT,Option.map_eq_some_iff]at hn
  obtain⟨i,hi,rfl⟩:=hn
  simp[sizeOf,typeInfo,hi]
 obtain⟨fs,hu,hfi⟩:∃fs,P.underlying s=some (.struct fs)∧fs[i]?=some f:=by
  unfold fieldT at hf
  split at hf
  ·exact⟨_,‹_›,hf⟩
  ·cases hf
 have hrun:∀a:Addr,(Instr.fieldAt s (.pointer (some a)) i).run P w=.ok (.pointer (some (a.add f.offset))) w:=by
  intro a
  simp[Instr.fieldAt,run_underlying hu,hfi,Instr.sureAddr,fieldPlace,hsz,h0]
 unfold fldA at h
 split at h
 ·rename_i k o
  simp only[Option.some.injEq]at h
  subst h
  cases hx with
  |ptr _ _ hk=>
  refine⟨_,hrun _,?_⟩
  rw[add_off rfl]
  exact .ptr _ _ hk
 ·rename_i cs
  split at h
  ·rename_i hle
   simp only[Option.some.injEq]at h
   subst h
   cases hx with
   |ref a _ us hs hd hlim hcell hrep=>
   have hlen:((cs.drop f.offset).take n).length=n:=by simp;omega
   refine⟨_,hrun _,.ref _ _ (fun j=>us (f.offset+j)) (by rw[add_off hs]) (fun y hy=>hd y (List.mem_of_mem_drop (List.mem_of_mem_take hy))) ?_ (fun j hj=> ?_) (fun j hj=> ?_)⟩
   ·rw[add_off hs,hlen];simp only;omega
   ·rw[hlen]at hj
    rw[add_add_off hs];exact hcell _ (by omega)
   ·rw[hlen]at hj
    have:=hrep (f.offset+j) (by omega)
    simpa using this
  ·cases h
 ·cases h
theorem run_fldv{x z:AV}{u:Value}{s:TypeId}{i n:Nat}{g:Bool}{f:Field}(hx:Rep G w u x)(h:fldvA g f.offset n x=some z)(hf:fieldT P s i=some f)(hg:aggT P f.type=some g)(hn:sizeT P f.type=some n)(h1:¬(g=false∧n≠1)):
 ∃r,(Instr.field s u i).run P w=.ok r w∧Rep G w r z:=by
 have hsz:(sizeOf f.type).run P w=.ok n w:=by
  simp only[sizeT,Option.map_eq_some_iff]at hn
  obtain⟨i,hi,rfl⟩:=hn
  simp[sizeOf,typeInfo,hi]
 have hag:(isAgg f.type).run P w=.ok g w:=by
  unfold aggT at hg
  unfold isAgg
  split at hg<;>simp only[Option.some.injEq,reduceCtorEq]at hg<;>subst hg
  ·rename_i e;simp[run_underlying e]
  ·rename_i e;simp[run_underlying e]
  ·rename_i d e1 e2 e
   simp only[Sem.run_bind,run_underlying e,Result.andThen_ok]
   cases d<;>first|rfl|exact absurd e (e1 _)|exact absurd e (e2 _ _)
 obtain⟨fs,hu,hfi⟩:∃fs,P.underlying s=some (.struct fs)∧fs[i]?=some f:=by
  unfold fieldT at hf
  split at hf
  ·exact⟨_,‹_›,hf⟩
  ·cases hf
 unfold fldvA at h
 split at h
 ·rename_i cs
  split at h
  ·rename_i hle
   cases hx with
   |agg us _ hn' hr=>
   cases g with
   |true=>
    simp only[if_true,Option.some.injEq]at h
    subst h
    refine⟨.agg (us.extract f.offset (f.offset+n)),?_,.agg _ _ (by simp;omega) fun j j1 j2=> ?_⟩
    ·simp[Instr.field,run_underlying hu,hfi,part,hag,hsz,asAgg]
    ·have:=hr (f.offset+j) (by simp at j1;omega) (by simp at j2;omega)
     simpa using this
   |false=>
    simp only[Bool.false_eq_true,if_false]at h
    obtain⟨hlt,hz⟩:=List.getElem?_eq_some_iff.1 h
    have hlt':f.offset<us.size:=by omega
    refine⟨us[f.offset],?_,hz▸hr _ hlt' hlt⟩
    simp[Instr.field,run_underlying hu,hfi,part,hag,asAgg,Array.getElem?_eq_getElem hlt']
  ·cases h
 ·cases h
theorem run_extract{x z:AV}{u:Value}{i:Nat}(hx:Rep G w u x)(h:extractA i x=some z):∃r,(Instr.extract u i).run P w=.ok r w∧Rep G w r z:=by
 unfold extractA at h
 split at h
 ·rename_i vs
  cases hx with
  |tuple us _ hn hr=>
  obtain⟨hlt,hz⟩:=List.getElem?_eq_some_iff.1 h
  have hlt':i<us.size:=by omega
  exact⟨us[i],by simp[Instr.extract,Array.getElem?_eq_getElem hlt'],hz▸hr _ hlt' hlt⟩
 ·cases h
theorem run_mm{mx:Bool}{x y z:AV}{u v:Value}{az:Array TypeId}{ty:TypeId}(hx:Rep G w u x)(hy:Rep G w v y)(h:mmA mx x y=some z):
 ∃r,(if mx then Builtin.max_ az ty #[u,v]else Builtin.min_ az ty #[u,v]).run P w=.ok r w∧Rep G w r z:=by
 unfold mmA at h
 split at h
 ·split at h
  ·rename_i k a k' b hk
   simp only[Option.some.injEq]at h
   subst h;subst hk
   cases hx;cases hy
   cases mx
   ·exact⟨_,rfl,.int _ _⟩
   ·exact⟨_,rfl,.int _ _⟩
  ·cases h
 ·cases h
theorem Rep.shut1{v:Value}{x:AV}(h:Rep G w v x):Rep G w v (shut1 x):=by
 cases h<;>try(simp only[Go.Aa.shut1];first|assumption|(constructor<;>assumption))
 case sl0 a c k hc ht=>
  cases k with
  |sh=>exact .sl0 _ _ _ hc ht
  |full=>exact .sl0 _ _ _ (fun e=>by cases e) (fun t e=>by cases e)
  |nil=>exact .sl0 _ _ _ hc ht
  |own t=>exact absurd rfl (ht t)
 case sl a c k l es us hl hc hcm hs hes he0 hd hlim hcell hrep hfull hown=>
  cases k with
  |sh=>exact .sl a c _ l es us hl hc hcm hs hes he0 hd hlim hcell hrep hfull hown
  |nil=>exact .sl a c _ l es us hl hc hcm hs hes he0 hd hlim hcell hrep hfull hown
  |full=>exact .sl a c _ l es us hl hc hcm hs hes he0 hd hlim hcell hrep (fun e=>by cases e) (fun t e=>by cases e)
  |own t=>exact .sl a c _ l es us hl hc hcm hs hes he0 hd hlim hcell hrep (fun e=>by cases e) (fun t e=>by cases e)
theorem bound_run{m m':Nat}{x:Option AV}{d n:Nat}{v:Option Value}(h:boundA m x d=some n)(hm:m≤m')(hx:∀y,x=some y→∃u,v=some u∧Rep G w u y)(hn:x=none→v=none):
 (x=none∧v=none∧n=d)∨∃u,v=some u∧n≤m∧∀code,(Instr.sliceBound u m' code).run P w=.ok n w:=by
 unfold boundA at h
 split at h
 ·simp only[Option.some.injEq]at h
  exact .inl ⟨rfl,hn rfl,h.symm⟩
 ·rename_i k i
  split at h
  ·rename_i hb
   simp only[Option.some.injEq]at h
   obtain⟨u,hu,hr⟩:=hx _ rfl
   cases hr
   refine .inr ⟨_,hu,by omega,fun code=> ?_⟩
   have hb':0≤i∧i≤(m':Int):=⟨hb.1,by omega⟩
   simp[Instr.sliceBound,asIntOf,hb',h]
  ·cases h
 ·cases h
theorem bounds_run{sl:Bool}{n c l h:Nat}{lo hi:Option AV}{vl vh:Option Value}(hc:n≤c)(hh:boundA n hi n=some h)(hl:boundA h lo 0=some l)
 (rl:∀y,lo=some y→∃u,vl=some u∧Rep G w u y)(nl:lo=none→vl=none)(rh:∀y,hi=some y→∃u,vh=some u∧Rep G w u y)(nh:hi=none→vh=none):
 (Instr.sliceBounds sl n c vl vh none).run P w=.ok (l,h,c) w∧l≤h∧h≤n:=by
 have H:=bound_run (P:=P) hh hc rh nh
 have hle:h≤n:=by
  rcases H with⟨_,_,e⟩|⟨_,_,e,_⟩<;>omega
 have L:=bound_run (P:=P) hl (Nat.le_refl h) rl nl
 have lle:l≤h:=by
  rcases L with⟨_,_,e⟩|⟨_,_,e,_⟩<;>omega
 refine⟨?_,lle,hle⟩
 unfold Instr.sliceBounds
 rcases H with⟨_,rfl,rfl⟩|⟨uh,rfl,_,eh⟩<;>rcases L with⟨_,rfl,rfl⟩|⟨ul,rfl,_,el⟩
 ·simp
 ·simp[el]
 ·simp[eh]
 ·simp[eh,el]
theorem slice_sl{k:SK}{xs:List AV}{u:Value}{es l h:Nat}(hx:Rep G w u (.sl k xs))(hlh:l≤h)(hh:h≤xs.length)(he:∀e,xs[l]?=some e→cellsN es e=true):
 ∃(a:Option Addr)(c:Nat),u=.slice a xs.length c∧xs.length≤c∧Rep G w (.slice (if c=l then a else a.map (·.add (l*es))) (h-l) (c-l)) (.sl .sh ((xs.take h).drop l)):=by
 have key:∀(a:Option Addr)(n c:Nat),n=0→Rep G w (.slice a n c) (.sl .sh []):=fun a n c hn=>by
  subst hn;exact .sl0 _ _ _ (fun e=>by cases e) (fun t e=>by cases e)
 cases hx with
 |sl0 a c _ hc ht=>
  refine⟨a,c,rfl,Nat.zero_le _,?_⟩
  simp only[List.length_nil]at hh
  have:((([]:List AV).take h).drop l)=[]:=by simp
  rw[this]
  exact key _ _ _ (by omega)
 |sl a c _ _ es' us hl hc hcm hs hes he0 hd hlim hcell hrep hfull hown=>
  refine⟨some a,c,rfl,hc,?_⟩
  rcases Nat.lt_or_ge l h with hlt|hge
  ·have hll:l<xs.length:=by omega
   have hes':es'=es:=by
    rw[←hes l hll]
    exact cells_of_N (he _ (List.getElem?_eq_getElem hll))
   subst hes'
   have hlen:((xs.take h).drop l).length=h-l:=by simp;omega
   have hcl:¬c=l:=by omega
   rw[if_neg hcl]
   have:=Rep.sl (G:=G) (w:=w) (a.add (l*es')) (c-l) .sh ((xs.take h).drop l) es' (fun i=>us (l+i)) (by intro e;rw[e]at hlen;simp at hlen;omega) (by rw[hlen];omega) (by omega) (by rw[add_off hs])
    (fun i hi=>by
      have:=hes (l+i) (by rw[hlen]at hi;omega)
      simpa using this) he0
    (fun x hx=>hd x (List.mem_of_mem_take (List.mem_of_mem_drop hx)))
    (by
      rw[add_off hs,hlen];simp only
      have h1:l*es'+(h-l)*es'=h*es':=by rw[←Nat.add_mul];congr 1;omega
      have h2:h*es'≤xs.length*es':=Nat.mul_le_mul_right _ hh
      omega)
    (fun i hi j hj=>by
      rw[hlen]at hi
      rw[add_add_off hs,←Nat.add_assoc,←Nat.add_mul]
      exact hcell (l+i) (by omega) j hj)
    (fun i hi j hj=>by
      have hi':i<h-l:=by rw[hlen]at hi;exact hi
      have e:((xs.take h).drop l)[i]=xs[l+i]:=by simp
      have:=hrep (l+i) (by omega) j (by rw[e]at hj;exact hj)
      simpa[e]using this)
    (fun e=>by cases e) (fun t e=>by cases e)
   rw[hlen]at this
   exact this
  ·have:((xs.take h).drop l)=[]:=List.drop_eq_nil_of_le (by simp;omega)
   rw[this]
   exact key _ _ _ (by omega)
theorem run_slice{x z:AV}{lo hi mx:Option AV}{u:Value}{vl vh vm:Option Value}{t:TypeId}{es:Nat}(hx:Rep G w u x)(h:sliceA es x lo hi mx=some z)
 (ht:(P.underlying t=some .string∧es=0)∨∃e,P.underlying t=some (.slice e)∧sizeT P e=some es∧es≠0)
 (rl:∀y,lo=some y→∃u,vl=some u∧Rep G w u y)(nl:lo=none→vl=none)(rh:∀y,hi=some y→∃u,vh=some u∧Rep G w u y)(nh:hi=none→vh=none)
 (rm:∀y,mx=some y→∃u,vm=some u∧Rep G w u y)(nm:mx=none→vm=none):
 ∃r,(Instr.sliceAt t u vl vh vm).run P w=.ok r w∧Rep G w r z:=by
 have hsl:es≠0→∃e,P.underlying t=some (.slice e)∧(sizeOf e).run P w=.ok es w:=by
  intro hne
  rcases ht with⟨_,h0⟩|⟨e,h1,h2,_⟩
  ·exact absurd h0 hne
  ·refine⟨e,h1,?_⟩
   simp only[sizeT,Option.map_eq_some_iff]at h2
   obtain⟨i,hi,rfl⟩:=h2
   simp[sizeOf,typeInfo,hi]
 have hstep:∀(a:Option Addr)(n c l hh:Nat)(e:TypeId),P.underlying t=some (.slice e)→(sizeOf e).run P w=.ok es w→(Instr.sliceBounds true n c vl vh none).run P w=.ok (l,hh,c) w→
  (Instr.sliceAt t (.slice a n c) vl vh none).run P w=.ok (.slice (if c=l then a else a.map (·.add (l*es))) (hh-l) (c-l)) w:=by
  intro a n c l hh e h1 h2 h3
  simp[Instr.sliceAt,Instr.slice,run_underlying h1,h2,h3]
 unfold sliceA at h
 split at h
 ·rename_i s
  split at h
  ·rename_i h0
   have hst:P.underlying t=some .string:=by
    rcases ht with⟨h1,_⟩|⟨e,_,_,h1⟩
    ·exact h1
    ·exact absurd h0 h1
   unfold sliceStr at h
   split at h
   ·cases h
   ·rename_i hh e1
    split at h
    ·cases h
    ·rename_i l e2
     simp only[Option.some.injEq]at h
     subst h
     cases hx
     have hv:vm=none:=nm rfl
     subst hv
     have hs:(⟨s.toArray⟩:ByteArray).size=s.length:=by simp[ByteArray.size]
     obtain⟨hb,h1,h2⟩:=bounds_run (P:=P) (sl:=false) (Nat.le_refl s.length) e1 e2 rl nl rh nh
     have e:(⟨s.toArray⟩:ByteArray).extract l hh=⟨((s.take hh).drop l).toArray⟩:=by
      apply ByteArray.ext
      apply Array.ext'
      simp[List.drop_take]
     refine⟨.string ((⟨s.toArray⟩:ByteArray).extract l hh),?_,by rw[e];exact .str _⟩
     rw[←hs]at hb
     simp only[Instr.sliceAt,Instr.slice,Sem.run_bind,run_underlying hst,Result.andThen_ok,hb,Option.isSome_none,Bool.false_eq_true,if_false]
     rfl
  ·cases h
 ·rename_i k xs
  split at h
  ·cases h
  ·rename_i hne
   obtain⟨e,h1,h2⟩:=hsl hne
   have hv:vm=none:=nm rfl
   subst hv
   unfold sliceSl at h
   split at h
   ·cases h
   ·rename_i hh e1
    split at h
    ·cases h
    ·rename_i l e2
     have hz:∃c a,u=.slice a xs.length c∧xs.length≤c:=by
      cases hx with
      |sl0 a c=>exact⟨c,a,rfl,Nat.zero_le _⟩
      |sl a c _ _ _ _ _ hc=>exact⟨c,some a,rfl,hc⟩
     obtain⟨c0,a0,hu,hc0⟩:=hz
     obtain⟨hb,hl1,hl2⟩:=bounds_run (P:=P) (sl:=true) hc0 e1 e2 rl nl rh nh
     split at h
     ·rename_i hn
      simp only[Option.some.injEq]at h
      subst h
      have hll:xs.length≤l:=by simpa using hn
      subst hu
      refine⟨_,hstep _ _ _ _ _ e h1 h2 hb,?_⟩
      have:hh-l=0:=by omega
      rw[this]
      exact .sl0 _ _ _ (fun e=>by cases e) (fun t e=>by cases e)
     ·rename_i el hn
      split at h
      ·rename_i hN
       simp only[Option.some.injEq]at h
       subst h
       obtain⟨a,c,hu',hc,hr⟩:=slice_sl (l:=l) (h:=hh) (es:=es) hx hl1 hl2 (fun e' he'=>by rw[hn]at he';cases he';exact hN)
       rw[hu]at hu'
       simp only[Value.slice.injEq]at hu'
       obtain⟨rfl,_,rfl⟩:=hu'
       subst hu
       exact⟨_,hstep _ _ _ _ _ e h1 h2 hb,hr⟩
      ·cases h
 ·rename_i k xs k' m
  split at h
  ·cases h
  ·rename_i hne
   obtain⟨e,h1,h2⟩:=hsl hne
   split at h
   ·rename_i hm
    subst hm
    split at h
    ·rename_i e1 e2
     simp only[Option.some.injEq]at h
     subst h
     obtain⟨um,rfl,hum⟩:=rm _ rfl
     cases hum
     have H:=bound_run (P:=P) (m':=0) e1 (Nat.le_refl 0) rh nh
     have L:=bound_run (P:=P) (m':=0) e2 (Nat.le_refl 0) rl nl
     rcases H with⟨_,_,e⟩|⟨uh,rfl,_,eh⟩
     ·cases e
     ·have hz:∃c a n,u=.slice a n c:=by
       cases hx with
       |sl0 a c=>exact⟨c,a,_,rfl⟩
       |sl a c=>exact⟨c,some a,_,rfl⟩
      obtain⟨c,a,n,rfl⟩:=hz
      have hm:∀code,(Instr.sliceBound (.int k' 0) c code).run P w=.ok 0 w:=fun code=>by simp[Instr.sliceBound,asIntOf]
      have hb:(Instr.sliceBounds true n c vl (some uh) (some (.int k' 0))).run P w=.ok (0,0,0) w:=by
       unfold Instr.sliceBounds
       rcases L with⟨_,rfl,_⟩|⟨ul,rfl,_,el⟩
       ·simp[hm,eh]
       ·simp[hm,eh,el]
      refine⟨.slice a 0 0,?_,.sl0 _ _ _ (fun _=>rfl) (fun t e=>by cases e)⟩
      simp[Instr.sliceAt,Instr.slice,run_underlying h1,h2,hb]
    ·cases h
   ·cases h
 ·rename_i k off n es'
  split at h
  ·cases h
  ·rename_i hne
   have hes:es'=es:=Classical.byContradiction fun h=>hne (.inr h)
   subst hes
   obtain⟨e,h1,h2⟩:=hsl (fun h=>hne (.inl h))
   have hv:vm=none:=nm rfl
   subst hv
   unfold sliceM at h
   split at h
   ·cases h
   ·rename_i hh e1
    split at h
    ·cases h
    ·rename_i l e2
     split at h
     ·rename_i hln
      simp only[Option.some.injEq]at h
      subst h
      cases hx with
      |msl _ _ _ c _ hk hc hcm he0 hcap=>
      obtain⟨hb,hl1,hl2⟩:=bounds_run (P:=P) (sl:=true) hc e1 e2 rl nl rh nh
      refine⟨_,hstep _ _ _ _ _ e h1 h2 hb,?_⟩
      rw[if_neg (by omega)]
      simp only[Option.map_some]
      rw[add_off rfl]
      refine .msl _ _ _ _ _ hk (by omega) (by omega) he0 ?_
      have hq:l*es'+(c-l)*es'=c*es':=by rw[←Nat.add_mul];congr 1;omega
      rw[Nat.add_assoc,hq]
      exact hcap
     ·cases h
 ·cases h
end Go.Aa
set_option linter.unusedVariables false
set_option linter.unusedSimpArgs false
namespace Go.Aa
open Go.RowKit
variable{P:Program}{G G':Ghost}{w w':World}
theorem bytesA_spec:∀{l:List AV}{bs:List UInt8},bytesA l=some bs→∃ns:List Int,l=ns.map (AV.int .u8)∧bs=ns.map fun n=>UInt8.ofNat n.toNat
 |[],bs,h=>by simp only[bytesA,Option.some.injEq]at h;exact⟨[],rfl,h.symm⟩
 |x::l,bs,h=>by
  simp only[bytesA]at h
  split at h
  ·rename_i b bs' h1 h2
   simp only[Option.some.injEq]at h
   obtain⟨ns,rfl,rfl⟩:=bytesA_spec h2
   unfold byteOfA at h1
   split at h1
   ·rename_i n
    simp only[Option.some.injEq]at h1
    exact⟨n::ns,rfl,by rw[←h,←h1];rfl⟩
   ·cases h1
  ·cases h
theorem run_conv_int{x z:AV}{u:Value}{s d:TypeId}{k:IntKind}{ds:TypeDesc}(hx:Rep G w u x)(h:convA (.int k) x=some z)(hs:P.underlying s=some ds)(hd:P.underlying d=some (.int k)):
 ∃r,(convert s d u).run P w=.ok r w∧Rep G w r z:=by
 cases x<;>simp only[convA,reduceCtorEq,Option.some.injEq]at h
 subst h;cases hx
 refine⟨_,?_,.int _ _⟩
 simp[convert,run_underlying hs,run_underlying hd,Conv.intToInt]
theorem run_conv_flt{x z:AV}{u:Value}{s d:TypeId}{k:IntKind}(hx:Rep G w u x)(h:convA .flt x=some z)(hs:P.underlying s=some (.int k))(hd:P.underlying d=some (.float .f64)):
 ∃r,(convert s d u).run P w=.ok r w∧Rep G w r z:=by
 cases x<;>simp only[convA,reduceCtorEq,Option.some.injEq]at h
 subst h;cases hx
 refine⟨_,?_,.flt _⟩
 simp[convert,run_underlying hs,run_underlying hd,Conv.intToFloat]
theorem run_conv_str{x z:AV}{u:Value}{s d:TypeId}(hx:Rep G w u x)(h:convA .str x=some z)(hs:P.underlying s=some .string)(hd:P.underlying d=some .string):
 ∃r,(convert s d u).run P w=.ok r w∧Rep G w r z:=by
 cases x<;>simp only[convA,reduceCtorEq,Option.some.injEq]at h
 subst h;cases hx
 refine⟨_,?_,.str _⟩
 simp[convert,run_underlying hs,run_underlying hd]
theorem run_conv_bytes{x z:AV}{u:Value}{s d e:TypeId}(hx:Rep G w u x)(h:convA .bytes x=some z)(hs:P.underlying s=some (.slice e))(he:P.underlying e=some (.int .u8))(hd:P.underlying d=some .string):
 ∃r,(convert s d u).run P w=.ok r w∧Rep G w r z:=by
 cases x<;>simp only[convA,reduceCtorEq,Option.map_eq_some_iff]at h
 rename_i k l
 obtain⟨bs,hb,rfl⟩:=h
 obtain⟨ns,rfl,rfl⟩:=bytesA_spec hb
 rcases Nat.eq_zero_or_pos ns.length with h0|h0
 ·obtain rfl:ns=[]:=List.eq_nil_of_length_eq_zero h0
  cases hx with
  |sl0 a c=>
   refine⟨.string ByteArray.empty,?_,.str []⟩
   cases a with
   |none=>simp[convert,run_underlying hs,run_underlying hd,run_underlying he,Conv.bytesToString]
   |some a=>
    obtain⟨b,o,sp⟩:=a
    simp[convert,run_underlying hs,run_underlying hd,run_underlying he,Conv.bytesToString,loadCells,loadCellsFrom]
  |sl _ _ _ _ _ _ hl=>exact absurd rfl hl
 ·obtain⟨a,c,es,us,rfl,hsp,hc,hcm,hes,he0,hlim,hdd,hcell,hrep⟩:=hx.elem (i:=0) (by simpa using h0)
  have hes1:es=1:=by rw[←hes 0 (by simpa using h0)];simp[AV.cells]
  subst hes1
  obtain⟨b,o,sp⟩:=a
  simp only at hsp
  subst hsp
  refine⟨.string (strOfNums ns),?_,.str _⟩
  have:=run_convert_bytes_arg (P:=P) w s e hs he b o (ns.map (AV.int .u8)).length c ns (by simp) (fun i hi=> ?_) d hd
  ·exact this
  ·have hi':i<ns.length:=by simpa using hi
   have h1:=hcell i hi 0 (by omega)
   have h2:=hrep i hi 0 (by simp[AV.cells])
   simp only[List.getElem_map,AV.cells,List.getElem_cons_zero]at h2
   rw[add_off rfl]at h1
   simp only[Nat.mul_one,Nat.add_zero]at h1
   cases h2':us i 0<;>rw[h2']at h2 h1<;>cases h2
   rw[h1]
   simp[hi',List.getD,List.getElem?_eq_getElem]
def ARep(G:Ghost)(w:World)(us:List Value)(cs:List AV):Prop:=us.length=cs.length∧∀i(h1:i<us.length)(h2:i<cs.length),Rep G w us[i] cs[i]
theorem ARep.of{us:Array Value}{cs:List AV}(hn:us.size=cs.length)(h:∀i(h1:i<us.size)(h2:i<cs.length),Rep G w us[i] cs[i]):ARep G w us.toList cs:=
 ⟨by simpa using hn,fun i h1 h2=>by rw[Array.getElem_toList];exact h i (by simpa using h1) h2⟩
theorem ARep.to{us:Array Value}{cs:List AV}(h:ARep G w us.toList cs):us.size=cs.length∧∀i(h1:i<us.size)(h2:i<cs.length),Rep G w us[i] cs[i]:=
 ⟨by simpa using h.1,fun i h1 h2=>by have:=h.2 i (by simpa using h1) h2;rwa [Array.getElem_toList]at this⟩
theorem ARep.set{us:List Value}{cs:List AV}{v:Value}{x:AV}(h:ARep G w us cs)(hr:Rep G w v x)(o:Nat):ARep G w (us.set o v) (cs.set o x):=by
 refine⟨by simpa using h.1,fun i h1 h2=> ?_⟩
 rw[List.getElem_set,List.getElem_set]
 split
 ·exact hr
 ·exact h.2 i (by simpa using h1) (by simpa using h2)
def pasteV(cells:List Value)(off:Nat):List Value→List Value
 |[]=>cells
 |v::vs=>pasteV (cells.set off v) (off+1) vs
theorem ARep.paste:∀{vs:List Value}{xs:List AV}{us:List Value}{cs:List AV}{off:Nat},ARep G w us cs→ARep G w vs xs→ARep G w (pasteV us off vs) (paste cs off xs)
 |[],[],_,_,_,h,_=>h
 |[],_::_,_,_,_,_,hv=>by have:=hv.1;simp at this
 |_::_,[],_,_,_,_,hv=>by have:=hv.1;simp at this
 |v::vs,x::xs,us,cs,off,h,hv=>by
  simp only[pasteV,Go.Aa.paste]
  have h0:Rep G w v x:=hv.2 0 (by simp) (by simp)
  refine ARep.paste (h.set h0 off) ⟨by simpa using hv.1,fun i h1 h2=> ?_⟩
  have:=hv.2 (i+1) (by simpa using h1) (by simpa using h2)
  simpa using this
theorem paste_length:∀(xs:List AV)(cs:List AV)(off:Nat),(paste cs off xs).length=cs.length
 |[],_,_=>rfl
 |x::xs,cs,off=>by simp[paste,paste_length xs]
theorem foldl_paste(vs:List Value):∀(cells:Array Value)(off j:Nat),((vs.zipIdx j).foldl (fun cs(p:Value×Nat)=>cs.setIfInBounds (off+p.2) p.1) cells).toList=pasteV cells.toList (off+j) vs:=by
 induction vs with
 |nil=>intro cells off j;rfl
 |cons v vs ih=>
  intro cells off j
  simp only[List.zipIdx_cons,List.foldl_cons,pasteV]
  rw[ih]
  simp[Nat.add_assoc]
theorem Rep.cellsN{n:Nat}{v:Value}{x:AV}(h:Rep G w v x)(hn:cellsN n x=true):v.cells.size=n∧ARep G w v.cells.toList x.cells:=by
 have one:∀{v:Value}{x:AV},v.cells= #[v]→x.cells=[x]→Rep G w v x→ARep G w v.cells.toList x.cells:=by
  intro v x e1 e2 h
  rw[e1,e2]
  exact⟨rfl,fun i h1 h2=>by
   have:i=0:=by simpa using h2
   subst this
   exact h⟩
 cases h<;>simp only[Go.Aa.cellsN,Bool.false_eq_true,beq_iff_eq]at hn
 case agg us cs hl hr=>
  refine⟨?_,?_⟩
  ·show us.size=n
   omega
  ·exact ARep.of hl hr
 all_goals
  refine⟨?_,one rfl rfl (by constructor<;>assumption)⟩
  rw[hn];rfl
theorem fill_run(place:Nat→Option (Nat×Nat)){n:Nat}{a:Act}{T:Env}(hT:TRep G w n a.tmps T):∀(parts:List (Nat×Operand))(ps:List (Nat×Nat×Opd))(cells:Array Value)(cs cs':List AV),
 cParts P place parts=some ps→ARep G w cells.toList cs→buildA cs (ps.map fun p=>(p.1,p.2.1,ev T p.2.2))=some cs'→
 ∃out,Instr.fill place cells (parts.map fun p=>(p.1,a.eval p.2))=some out∧ARep G w out.toList cs'
 |[],ps,cells,cs,cs',hp,hc,h=>by
  simp only[cParts,Option.some.injEq]at hp
  subst hp
  simp only[List.map_nil,buildA,Option.some.injEq]at h
  subst h
  exact⟨cells,rfl,hc⟩
 |(i,x)::parts,ps,cells,cs,cs',hp,hc,h=>by
  simp only[cParts]at hp
  split at hp
  ·rename_i o m y ys hpl hx hrest
   simp only[Option.some.injEq]at hp
   subst hp
   simp only[List.map_cons,buildA]at h
   split at h
   ·rename_i hok
    obtain⟨hN,hle⟩:=hok
    obtain⟨hsz,hr⟩:=Rep.cellsN (cOpd_rep hT hx) hN
    have hcl:=hc.1
    simp only[Array.length_toList]at hcl
    simp only[List.map_cons,Instr.fill,hpl]
    rw[if_neg (by simp[hsz];omega)]
    refine fill_run place hT parts ys _ _ _ hrest ?_ h
    have e:=foldl_paste (a.eval x).cells.toList cells o 0
    rw[Nat.add_zero]at e
    have e2:(((a.eval x).cells.zipIdx.foldl (fun cs(x:Value×Nat)=>match x with|(c,j)=>cs.setIfInBounds (o+j) c) cells)).toList=pasteV cells.toList o (a.eval x).cells.toList:=by
     rw[←e,←Array.foldl_toList,Array.toList_zipIdx]
    rw[e2]
    exact hc.paste hr
   ·cases h
  ·cases hp
theorem run_buildA{n:Nat}{a:Act}{T:Env}{t:TypeId}{parts:Array (Nat×Operand)}{z:List AV}{place:Nat→Option (Nat×Nat)}{ps:List (Nat×Nat×Opd)}{cs:List AV}(hT:TRep G w n a.tmps T)
 (hz:zeroCells P t=some z)(hpl:placesT P t=some place)(hps:cParts P place parts.toList=some ps)(h:buildA z (ps.map fun p=>(p.1,p.2.1,ev T p.2.2))=some cs):
 ∃r,(Instr.build t (parts.map fun(i,x)=>(i,a.eval x))).run P w=.ok r w∧Rep G w r (.agg cs):=by
 unfold zeroCells at hz
 split at hz
 ·rename_i it hit
  split at hz
  ·rename_i zv hzv
   have hz0:ARep G w zv.cells.toList z:=by
    obtain⟨h1,h2⟩:=ofVs_rep (G:=G) (w:=w) hz
    exact⟨h1,h2⟩
   obtain⟨out,hf,ho⟩:=fill_run (P:=P) place hT parts.toList ps zv.cells z cs hps hz0 h
   obtain⟨ho1,ho2⟩:=ho.to
   refine⟨.agg out,run_build w t _ out ?_,.agg _ _ ho1 ho2⟩
   have hl:(parts.map fun(i,x)=>(i,a.eval x)).toList=parts.toList.map fun p=>(p.1,a.eval p.2):=by simp
   rw[hl]
   unfold Program.built
   unfold placesT at hpl
   split at hpl
   ·rename_i fs hfs
    split at hpl
    ·rename_i pl hpl'
     simp only[Option.some.injEq]at hpl
     subst hpl
     simp only[hit,hfs,hzv,hpl']
     have:(fun x:Nat=>pl.toArray[x]?)=fun(i:Nat)=>pl[i]?:=by funext x;simp
     rw[this];exact hf
    ·cases hpl
   ·rename_i m e hfs
    split at hpl
    ·rename_i ie hie
     simp only[Option.some.injEq]at hpl
     subst hpl
     simp only[hit,hfs,hzv,hie]
     exact hf
    ·cases hpl
   ·cases hpl
  ·cases hz
 ·cases hz
end Go.Aa


