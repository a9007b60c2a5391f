/-
  WHAT THE LAW LEANS ON, part 2 of 6: a machine of values and its soundness; the functions of the law upon it; what they come to.
-/
import Derived.Test.YtbcfceehklfojaaGreatDoorVwora
import Derived.Laws.CopyRow
import Derived.Deep.AppendSrc
import Derived.Lib.ItoaNum
import Derived.Deep.Upon
set_option linter.unusedVariables false
set_option linter.unusedSimpArgs false
namespace Go.Aa
open Go.RowKit
variable{P:Program}{G G':Ghost}{w w':World}
structure LRep(P:Program)(G:Ghost)(w:World)(r:LRec)(rec:Loop):Prop where
 ready:r.busy=false→rec.state=.ready
 pending:rec.pending=none
 ps:rec.params.toList=r.ps
 fn:∃f,P.funcs[rec.fn]?=some f
 fits:r.nb≤G.nb∧r.nt≤G.nt∧r.nl≤G.nl∧∀i,Fits r.nb r.nt r.nl (r.T i)
 body:∃mu nt,TRep G w nt rec.tmps r.T∧r.ps.all (fun d=>decide (d<nt))=true∧cCode P mu nt rec.assign=some r.assign∧cCode P mu nt rec.body=some r.body
def LiveB(H:Heap)(k:Nat):Prop:=H.boxes[k]?≠some []
def Kept(G:Ghost)(b:Nat):Prop:=(∀k,G.on k→b≠G.μ k)∧(∀t,t<G.nt→b≠G.τ t)∧(∀l,l<G.nl→b≠G.ln l)
theorem Kept.step{b:Nat}(h:Kept G b)(hb:b<w.heap.size)(hst:Step G w G' w'):Kept G' b:=by
 obtain⟨h1,h2,h3⟩:=h
 refine⟨fun k hk e=> ?_,fun t ht e=> ?_,fun l hl e=> ?_⟩
 ·rcases hst.μnew k hk with⟨j,hj,e2⟩|h
  ·exact h1 j hj (e.trans e2)
  ·omega
 ·rcases hst.τnew t ht with⟨ht',e'⟩|h
  ·rw[e']at e;exact h2 t ht' e
  ·omega
 ·rcases Nat.lt_or_ge l G.nl with hl'|hl'
  ·rw[hst.ln l hl']at e;exact h3 l hl' e
  ·have:=hst.lnew l hl' hl;omega
def globSpec:List (String×(Array Value→Prop)):=[
 ("internal/strconv.uint64pow10",fun cs=>cs=(Lib.pow10Tab.map fun z=>Value.int .u64 z).toArray),
 ("strconv.ErrSyntax",fun cs=>∃tp p,cs= #[.iface tp p]),
 ("strconv.ErrRange",fun cs=>∃tp p,cs= #[.iface tp p])]
def Glob(P:Program)(G:Ghost)(w:World):Prop:=∀s∈globSpec,∀g,P.globalNamed s.1=some g→Kept G g∧∃cs e m,w.heap[g]?=some (.cells cs e m)∧s.2 cs
theorem Glob.step(h:Glob P G w)(hst:Step G w G' w'):Glob P G' w':=fun s hs g hg=>by
 obtain⟨h1,cs,e,m,h2,h3⟩:=h s hs g hg
 have hlt:=(Array.getElem?_eq_some_iff.1 h2).1
 exact⟨h1.step hlt hst,cs,e,m,by rw[(hst.frame g hlt h1.1 h1.2.1 h1.2.2).1];exact h2,h3⟩
theorem Glob.turn(h:Glob P G w)(hk:∀g,Kept G g→Kept G' g)(hh:∀g cs e m,Kept G g→w.heap[g]?=some (.cells cs e m)→w'.heap[g]?=some (.cells cs e m)):Glob P G' w':=fun s hs g hg=>by
 obtain⟨h1,cs,e,m,h2,h3⟩:=h s hs g hg
 exact⟨hk g h1,cs,e,m,hh g cs e m h1 h2,h3⟩
structure HRep(P:Program)(G:Ghost)(w:World)(H:Heap):Prop where
 base:Base G w
 nb:G.nb=H.boxes.length
 nt:G.nt=H.toks.length
 nl:G.nl=H.loops.length
 box:∀k(hk:k<H.boxes.length)(hh:G.hole k=false),∃us e,w.heap[G.μ k]?=some (.cells us e (0,0))∧((H.boxes[k]).length≤us.size∧us.size=G.mc k)∧∀i(h1:i<us.size)(h2:i<(H.boxes[k]).length),Rep G w us[i] (H.boxes[k])[i]
 μinj:∀i j,G.on i→G.on j→LiveB H i→LiveB H j→G.μ i=G.μ j→i=j
 μlim:∀k,G.on k→LiveB H k→G.lim (G.μ k)=0
 tok:∀t(ht:t<H.toks.length),H.toks[t]=G.ext t∧∃us e,w.heap[G.τ t]?=some (.cells us e (0,0))∧0<G.tes t∧us.size=G.cap t*G.tes t∧G.lim (G.τ t)=G.ext t*G.tes t∧G.ext t≤G.cap t∧G.cap t≤9223372036854775807
 τinj:∀i j,i<G.nt→j<G.nt→G.τ i=G.τ j→i=j
 μτ:∀k t,G.on k→t<G.nt→G.μ k≠G.τ t
 loop:∀l(hl:l<H.loops.length),∃rec,w.heap[G.ln l]?=some (.loop rec)∧LRep P G w H.loops[l] rec
 linj:∀i j,i<G.nl→j<G.nl→G.ln i=G.ln j→i=j
 glob:Glob P G w
theorem HRep.μlt{H:Heap}(h:HRep P G w H){k:Nat}(hk:G.on k):G.μ k<w.heap.size:=by
 obtain⟨us,e,hb,_⟩:=h.box k (by rw[←h.nb];exact hk.1) hk.2
 exact(Array.getElem?_eq_some_iff.1 hb).1
theorem HRep.τlt{H:Heap}(h:HRep P G w H){t:Nat}(ht:t<G.nt):G.τ t<w.heap.size:=by
 obtain⟨_,us,e,hb,_⟩:=h.tok t (by rw[←h.nt];exact ht)
 exact(Array.getElem?_eq_some_iff.1 hb).1
theorem HRep.lnlt{H:Heap}(h:HRep P G w H){l:Nat}(hl:l<G.nl):G.ln l<w.heap.size:=by
 obtain⟨rec,hb,_⟩:=h.loop l (by rw[←h.nl];exact hl)
 exact(Array.getElem?_eq_some_iff.1 hb).1
theorem HRep.μln{H:Heap}(h:HRep P G w H){k l:Nat}(hk:G.on k)(hl:l<G.nl):G.μ k≠G.ln l:=by
 intro e
 obtain⟨us,e',hb,_⟩:=h.box k (by rw[←h.nb];exact hk.1) hk.2
 obtain⟨rec,hb',_⟩:=h.loop l (by rw[←h.nl];exact hl)
 rw[e,hb']at hb;cases hb
theorem HRep.τln{H:Heap}(h:HRep P G w H){t l:Nat}(ht:t<G.nt)(hl:l<G.nl):G.τ t≠G.ln l:=by
 intro e
 obtain⟨_,us,e',hb,_⟩:=h.tok t (by rw[←h.nt];exact ht)
 obtain⟨rec,hb',_⟩:=h.loop l (by rw[←h.nl];exact hl)
 rw[e,hb']at hb;cases hb
theorem LRep.step{r:LRec}{rec:Loop}(h:LRep P G w r rec)(hst:Step G w G' w'):LRep P G' w' r rec:=by
 obtain⟨h1,h2,h3,h5,⟨f1,f2,f3,f4⟩,mu,nt,h4,h6⟩:=h
 exact⟨h1,h2,h3,h5,⟨Nat.le_trans f1 hst.nb,Nat.le_trans f2 hst.nt,Nat.le_trans f3 hst.nl,f4⟩,mu,nt,h4.step hst,h6⟩
theorem HRep.grow{H:Heap}(h:HRep P G w H)(hg:Grow G w G' w'):HRep P G' w' H:=by
 have hst:=hg.step h.base
 have e:=hg.g
 have hlim:∀b,b<w.heap.size→G'.lim b=G.lim b:=fun b hb=>(hg.heap b hb).2
 have eμ:G'.μ=G.μ:=by rw[e]
 have eτ:G'.τ=G.τ:=by rw[e]
 have eln:G'.ln=G.ln:=by rw[e]
 have eext:G'.ext=G.ext:=by rw[e]
 have ecap:G'.cap=G.cap:=by rw[e]
 have etes:G'.tes=G.tes:=by rw[e]
 have enb:G'.nb=G.nb:=by rw[e]
 have ehole:G'.hole=G.hole:=by rw[e]
 have eon:∀k,G'.on k→G.on k:=fun k hk=>⟨enb▸hk.1,ehole▸hk.2⟩
 have ent:G'.nt=G.nt:=by rw[e]
 have enl:G'.nl=G.nl:=by rw[e]
 refine⟨hg.new,enb▸h.nb,ent▸h.nt,enl▸h.nl,fun k hk hh=> ?_,?_,fun k hk hl=> ?_,fun t ht=> ?_,?_,?_,fun l hl=> ?_,?_,h.glob.step hst⟩
 ·have hh':G.hole k=false:=by rw[←ehole];exact hh
  obtain⟨us,e',hb,h1,h2⟩:=h.box k hk hh'
  refine⟨us,e',?_,by rw[show G'.mc=G.mc from by rw[e]];exact h1,fun i j1 j2=>(h2 i j1 j2).step hst⟩
  rw[eμ,(hg.heap _ (h.μlt ⟨by rw[h.nb];exact hk,hh'⟩)).1];exact hb
 ·rw[eμ];exact fun i j hi hj=>h.μinj i j (eon i hi) (eon j hj)
 ·rw[eμ,hlim _ (h.μlt (eon k hk))];exact h.μlim k (eon k hk) hl
 ·obtain⟨h0,us,e',hb,h1,h2,h3,h4,h5⟩:=h.tok t ht
  have hlt:=h.τlt (by rw[h.nt];exact ht)
  refine⟨by rw[eext];exact h0,us,e',?_,by rw[etes];exact h1,by rw[ecap,etes];exact h2,by rw[eτ,hlim _ hlt,eext,etes];exact h3,by rw[eext,ecap];exact h4,by rw[ecap];exact h5⟩
  rw[eτ,(hg.heap _ hlt).1];exact hb
 ·rw[eτ,ent];exact h.τinj
 ·rw[eμ,eτ,ent];exact fun k t hk ht=>h.μτ k t (eon k hk) ht
 ·obtain⟨rec,hb,hr⟩:=h.loop l hl
  refine⟨rec,?_,hr.step hst⟩
  rw[eln,(hg.heap _ (h.lnlt (by rw[h.nl];exact hl))).1];exact hb
 ·rw[eln,enl];exact h.linj
theorem run_aggT{t:TypeId}{g:Bool}(hg:aggT P t=some g):(isAgg t).run P w=.ok g w:=by
 unfold aggT at hg
 unfold isAgg
 split at hg<;>simp only[Option.some.injEq,reduceCtorEq]at hg<;>subst hg
 ·rename_i e;simp[run_underlying e]
 ·rename_i e;simp[run_underlying e]
 ·rename_i d e1 e2 e
  simp only[Sem.run_bind,run_underlying e,Result.andThen_ok]
  cases d<;>first|rfl|exact absurd e (e1 _)|exact absurd e (e2 _ _)
theorem run_sizeT{t:TypeId}{n:Nat}(hn:sizeT P t=some n):(sizeOf t).run P w=.ok n w:=by
 simp only[sizeT,Option.map_eq_some_iff]at hn
 obtain⟨i,hi,rfl⟩:=hn
 simp[sizeOf,typeInfo,hi]
theorem add_zero'(a:Addr):a.add 0=a:=by simp[Addr.add]
theorem load_at{a:Addr}{cs:List AV}{us:Nat→Value}{t:TypeId}{g:Bool}{z:AV}(hg:aggT P t=some g)(hn:sizeT P t=some cs.length)
 (hcell:∀j,j<cs.length→w.cell? (a.add j)=some (us j))(hrep:∀j(hj:j<cs.length),Rep G w (us j) cs[j])
 (hz:(if g then some (AV.agg cs)else match cs with|[x]=>some x|_=>none)=some z):∃r,(loadVar t a).run P w=.ok r w∧Rep G w r z:=by
 cases g with
 |true=>
  simp only[if_true,Option.some.injEq]at hz
  subst hz
  refine⟨.agg ((List.range cs.length).map us).toArray,?_,.agg _ _ (by simp) fun i h1 h2=> ?_⟩
  ·simp[loadVar,run_aggT hg,run_sizeT hn,run_loadCells w a cs.length us hcell]
  ·simpa using hrep i h2
 |false=>
  simp only[Bool.false_eq_true,if_false]at hz
  split at hz
  ·rename_i x
   simp only[Option.some.injEq]at hz
   subst hz
   have hc:=hcell 0 (by simp)
   rw[add_zero']at hc
   exact⟨us 0,by simp[loadVar,run_aggT hg,hc],hrep 0 (by simp)⟩
  ·cases hz
theorem run_loadA{H:Heap}{x z:AV}{u:Value}{t:TypeId}{g:Bool}{n:Nat}(hH:HRep P G w H)(hx:Rep G w u x)(h:loadA g n H x=some z)(hg:aggT P t=some g)(hn:sizeT P t=some n):
 ∃r,(Instr.loadAt t u).run P w=.ok r w∧Rep G w r z:=by
 unfold loadA at h
 split at h
 ·rename_i cs
  split at h
  ·rename_i hl
   subst hl
   cases hx with
   |ref a _ us hs hd hlim hcell hrep=>
   obtain⟨r,h1,h2⟩:=load_at hg hn hcell hrep h
   exact⟨r,by simp[Instr.loadAt,Instr.sureAddr,h1],h2⟩
  ·cases h
 ·rename_i k off
  split at h
  ·rename_i cs hcs
   split at h
   ·rename_i hle
    cases hx with
    |ptr _ _ hk=>
    obtain⟨hlt,hcs'⟩:=List.getElem?_eq_some_iff.1 hcs
    obtain⟨us,e,hb,⟨hsz,-⟩,hrep⟩:=hH.box k hlt hk.2
    rw[hcs']at hsz hrep
    have hlen:((cs.drop off).take n).length=n:=by simp;omega
    have hcell:∀j,j<((cs.drop off).take n).length→w.cell? ((⟨G.μ k,off,none⟩:Addr).add j)=some (us.getD (off+j) undef):=by
     intro j hj
     rw[hlen]at hj
     rw[add_off rfl]
     simp[World.cell?,hb,Array.getD,show off+j<us.size by omega]
    have hrep':∀j(hj:j<((cs.drop off).take n).length),Rep G w (us.getD (off+j) undef) ((cs.drop off).take n)[j]:=by
     intro j hj
     have hj':j<n:=by rw[hlen]at hj;exact hj
     have:=hrep (off+j) (by omega) (by omega)
     simpa[Array.getD,show off+j<us.size by omega]using this
    obtain⟨r,h1,h2⟩:=load_at (P:=P) (t:=t) (g:=g) (z:=z) hg (by rw[hlen];exact hn) hcell hrep' (by
     cases g with
     |true=>simpa using h
     |false=>
      simp only[Bool.false_eq_true,if_false]at h⊢
      split at h
      ·rename_i hn1
       subst hn1
       obtain⟨hlt2,hz⟩:=List.getElem?_eq_some_iff.1 h
       rw[List.drop_eq_getElem_cons hlt2]
       simp[hz]
      ·cases h)
    exact⟨r,by simp[Instr.loadAt,Instr.sureAddr,h1],h2⟩
   ·cases h
  ·cases h
 ·cases h
end Go.Aa
set_option linter.unusedVariables false
set_option linter.unusedSimpArgs false
namespace Go.Aa
open Go.RowKit
variable{P:Program}{G G':Ghost}{w w':World}
theorem Rep.one{v:Value}{x:AV}(h:Rep G w v x)(hx:cellOk x=true):v.oneCell'=true:=by
 cases h<;>first|rfl|(simp[cellOk]at hx;done)
theorem pasteV_spec:∀(vs cells:List Value)(off:Nat),off+vs.length≤cells.length→pasteV cells off vs=cells.take off++vs++cells.drop (off+vs.length)
 |[],cells,off,h=>by simp[pasteV]
 |v::vs,cells,off,h=>by
  simp only[List.length_cons]at h
  rw[pasteV,pasteV_spec vs _ _ (by simp;omega)]
  have h1:(cells.set off v).take (off+1)=cells.take off++[v]:=by
   rw[List.take_set,List.take_succ_eq_append_getElem (by omega)]
   rw[List.set_append_right _ _ (by simp;omega)]
   simp[show min off cells.length=off by omega]
  have h2:(cells.set off v).drop (off+1+vs.length)=cells.drop (off+(v::vs).length):=by
   rw[List.drop_set_of_lt (by omega)]
   congr 1
   simp;omega
  rw[h1,h2]
  simp
theorem Step.setRow{H:Heap}(hH:HRep P G w H){k:Nat}(hk:G.on k)(hl:LiveB H k)(cs:Array Value):Step G w G (w.setRow (G.μ k) cs):=by
 refine⟨rfl,rfl,rfl,by simp,fun _=>Nat.le_refl _,fun b off ho=> ?_,Nat.le_refl _,fun _ _=>rfl,fun _ _=>rfl,fun k h=>.inl ⟨k,h,rfl⟩,fun _ _=>rfl,Nat.le_refl _,fun _ _=>Nat.le_refl _,
  fun _ _ _=>⟨rfl,rfl⟩,fun _ _=>rfl,fun _ h=>.inl ⟨h,rfl⟩,Nat.le_refl _,fun _ _=>rfl,fun _ h1 h2=>absurd h2 (by omega),fun b _ h1 _ _=>⟨?_,rfl⟩⟩
 ·by_cases e:b=G.μ k
  ·rw[e,hH.μlim k hk hl]at ho;omega
  ·exact cell_setRow_other _ _ _ _ e
 ·exact setRow_other _ _ _ _ (h1 k hk)
theorem run_storeA{H H':Heap}{x y:AV}{u v:Value}{t:TypeId}{n:Nat}(hH:HRep P G w H)(hx:Rep G w u x)(hy:Rep G w v y)(h:storeA n H x y=some H')(hn:sizeT P t=some n):
 ∃w',(Instr.storeAt t u v).run P w=.ok () w'∧Step G w G w'∧HRep P G w' H':=by
 unfold storeA at h
 split at h
 ·rename_i k off
  split at h
  ·rename_i cs hcs
   split at h
   ·rename_i hok
    obtain⟨hle,hN,hcell,hn0⟩:=hok
    simp only[Option.some.injEq]at h
    subst h
    cases hx with
    |ptr _ _ hk=>
    obtain⟨hlt,hcs'⟩:=List.getElem?_eq_some_iff.1 hcs
    have hlive:LiveB H k:=by
     unfold LiveB
     rw[hcs]
     intro e
     simp only[Option.some.injEq]at e
     rw[e]at hle
     simp only[List.length_nil]at hle
     omega
    obtain⟨us,e,hb,⟨hsz,hmc⟩,hrep⟩:=hH.box k hlt hk.2
    rw[hcs']at hsz hrep
    obtain⟨hvs,hvr⟩:=hy.cellsN hN
    have hone:∀c∈v.cells.toList,c.oneCell'=true:=by
     intro c hc
     obtain⟨i,hi,rfl⟩:=List.getElem_of_mem hc
     have hi2:i<y.cells.length:=by rw[←hvr.1];exact hi
     exact(hvr.2 i hi hi2).one (List.all_eq_true.1 hcell _ (List.getElem_mem hi2))
    have hvl:v.cells.toList.length=n:=by simpa using hvs
    have hrun:=run_storeCells_at P (G.μ k) off e v.cells.toList 0 us w hb (by rw[hvl];omega) hone
    simp only[Nat.add_zero]at hrun
    have hst:=Step.setRow hH hk hlive (us.toList.take off++v.cells.toList++us.toList.drop (off+v.cells.toList.length)).toArray
    refine⟨_,?_,hst,?_⟩
    ·simp only[Instr.storeAt,Instr.sureAddr,Sem.run_bind,Sem.run_pure,Result.andThen_ok,storeVar,run_sizeT hn,hvs,ne_eq,not_true,if_false]
     exact hrun
    ·rw[←pasteV_spec _ _ _ (by rw[hvl];simp;omega)]at hst⊢
     have hnew:=setRow_heap w (G.μ k) us (pasteV us.toList off v.cells.toList).toArray e (0,0) hb
     have hlv:∀j,LiveB {H with boxes:=H.boxes.set k (paste cs off y.cells)} j→LiveB H j:=fun j hj=>by
      by_cases e:k=j
      ·rw[←e];exact hlive
      ·unfold LiveB at hj⊢
       simp only[List.getElem?_set_ne e]at hj
       exact hj
     refine⟨fun b hb'=>hH.base b (by simpa using hb'),by rw[hH.nb];simp,hH.nt,hH.nl,fun j hj hh=> ?_,fun i j hi hj l1 l2=>hH.μinj i j hi hj (hlv i l1) (hlv j l2),fun j hj l=>hH.μlim j hj (hlv j l),fun t ht=> ?_,hH.τinj,hH.μτ,fun l hl=> ?_,hH.linj,hH.glob.step hst⟩
     ·simp only[List.length_set]at hj
      by_cases ejk:k=j
      ·subst ejk
       have hA:ARep G w us.toList (cs++List.replicate (us.size-cs.length) .undef):=by
        refine⟨by simp;omega,fun i h1 h2=> ?_⟩
        rw[Array.getElem_toList,List.getElem_append]
        split
        ·exact hrep i (by simpa using h1) (by assumption)
        ·rw[List.getElem_replicate];exact .undef _
       have hB:=hA.paste hvr (off:=off)
       refine⟨_,e,hnew,?_,fun i h1 h2=> ?_⟩
       ·have hBl:=hB.1
        rw[paste_length]at hBl
        simp only[List.getElem_set_self,paste_length,List.size_toArray]
        refine⟨by rw[hBl,List.length_append];exact Nat.le_add_right _ _,?_⟩
        rw[←hmc,hBl,List.length_append,List.length_replicate]
        omega
       ·simp only[List.getElem_set_self]at h2⊢
        rw[paste_length]at h2
        have hpre:∀(xs a b:List AV)(o:Nat),o+xs.length≤a.length→∀i(hi:i<a.length),(paste (a++b) o xs)[i]'(by rw[paste_length];simp;omega)=(paste a o xs)[i]'(by rw[paste_length];exact hi):=by
         intro xs
         induction xs with
         |nil=>intro a b o _ i hi;simp[paste,List.getElem_append_left hi]
         |cons x xs ih=>
          intro a b o ho i hi
          simp only[List.length_cons]at ho
          simp only[paste]
          have e1:(a++b).set o x=a.set o x++b:=List.set_append_left _ _ (by omega)
          simp only[e1]
          exact ih (a.set o x) b (o+1) (by simp;omega) i (by simpa using hi)
        have hyl:y.cells.length=n:=by rw[←hvr.1];exact hvl
        have:=hB.2 i (by simpa using h1) (by rw[paste_length];simp;omega)
        rw[hpre y.cells cs _ off (by omega) i h2]at this
        simpa using this.step hst
      ·obtain⟨us',e',hb',h1,h2⟩:=hH.box j hj hh
       simp only[List.getElem_set_ne ejk]
       by_cases eμ:G.μ j=G.μ k
       ·have hdead:H.boxes[j]=[]:=by
         refine Classical.byContradiction fun hne=>ejk (hH.μinj k j hk ⟨by rw[hH.nb];exact hj,hh⟩ hlive ?_ eμ.symm)
         unfold LiveB
         rw[List.getElem?_eq_getElem hj]
         intro e
         exact hne (by simpa using e)
        rw[eμ,hb]at hb'
        simp only[Option.some.injEq,Obj.cells.injEq]at hb'
        obtain⟨rfl,-⟩:=hb'
        refine⟨_,e,by rw[eμ];exact hnew,⟨by rw[hdead];simp,?_⟩,fun i j1 j2=>by rw[hdead]at j2;simp at j2⟩
        rw[←h1.2,List.size_toArray,pasteV_spec _ _ _ (by rw[hvl];simp;omega)]
        simp only[List.length_append,List.length_take,List.length_drop,Array.length_toList,hvl]
        omega
       ·refine⟨us',e',?_,h1,fun i j1 j2=>(h2 i j1 j2).step hst⟩
        rw[setRow_other _ _ _ _ eμ]
        exact hb'
     ·obtain⟨h0,us',e',hb',r⟩:=hH.tok t ht
      exact⟨h0,us',e',by rw[setRow_other _ _ _ _ (fun e=>hH.μτ k t hk (by rw[hH.nt];exact ht) e.symm)];exact hb',r⟩
     ·obtain⟨rec,hb',hr⟩:=hH.loop l hl
      exact⟨rec,by rw[setRow_other _ _ _ _ (fun e=>hH.μln hk (by rw[hH.nl];exact hl) e.symm)];exact hb',hr.step hst⟩
   ·cases h
  ·cases h
 ·cases h
def Ghost.box(G:Ghost)(b c:Nat):Ghost:={G with nb:=G.nb+1,μ:=fun k=>if k=G.nb then b else G.μ k,mc:=fun k=>if k=G.nb then c else G.mc k,hole:=fun k=>if k=G.nb then false else G.hole k}
theorem Ghost.box_on{G:Ghost}{b c k:Nat}(h:(G.box b c).on k)(e:k≠G.nb):G.on k:=by
 obtain⟨h1,h2⟩:=h
 simp only[Ghost.box,if_neg e]at h1 h2
 exact⟨by omega,h2⟩
theorem live_app{H:Heap}{cs:List AV}{k:Nat}(hk:k<H.boxes.length)(h:LiveB {H with boxes:=H.boxes++[cs]} k):LiveB H k:=by
 unfold LiveB at h⊢
 rw[List.getElem?_append_left hk]at h
 exact h
theorem box_new{H:Heap}{us:Array Value}{cs:List AV}(hH:HRep P G w H)(t:TypeId)(hsz:cs.length≤us.size)(hr:∀i(h1:i<us.size)(h2:i<cs.length),Rep G w us[i] cs[i]):
 Step G w (G.box w.heap.size us.size) (w.alloc (.cells us t))∧HRep P (G.box w.heap.size us.size) (w.alloc (.cells us t)) {H with boxes:=H.boxes++[cs]}:=by
 have hst:Step G w (G.box w.heap.size us.size) (w.alloc (.cells us t)):=by
  refine⟨rfl,rfl,rfl,by simp,fun _=>Nat.le_refl _,fun b off ho=> ?_,by simp[Ghost.box],fun k hk=>by simp[Ghost.box];omega,fun k hk=>by have:=hk.1;simp[Ghost.box];omega,fun k h2=> ?_,fun k hk=>by have:=hk.1;simp[Ghost.box];omega,Nat.le_refl _,fun _ _=>Nat.le_refl _,
   fun _ _ _=>⟨rfl,rfl⟩,fun _ _=>rfl,fun _ h=>.inl ⟨h,rfl⟩,Nat.le_refl _,fun _ _=>rfl,fun _ h1 h2=>absurd h2 (by simp[Ghost.box];omega),fun b hb _ _ _=>⟨Below.heap_alloc _ _ _ hb,rfl⟩⟩
  ·have hlt:b<w.heap.size:=by
    rcases Nat.lt_or_ge b w.heap.size with h'|h'
    ·exact h'
    ·rw[hH.base b h']at ho;omega
   unfold World.cell?
   rw[Below.heap_alloc _ _ _ hlt]
  ·by_cases e:k=G.nb
   ·simp only[Ghost.box]
    rw[if_pos e];exact .inr (Nat.le_refl _)
   ·have h3:=Ghost.box_on h2 e
    simp only[Ghost.box]
    rw[if_neg e];exact .inl ⟨k,h3,rfl⟩
 have hnew:(w.alloc (.cells us t)).heap[w.heap.size]?=some (.cells us t (0,0)):=by
  show(w.heap.push _)[w.heap.size]?=_
  simp
 have old:∀b,b<w.heap.size→(w.alloc (.cells us t)).heap[b]?=w.heap[b]?:=fun b hb=>Below.heap_alloc _ _ _ hb
 refine⟨hst,⟨fun b hb=> ?_,by simp[Ghost.box,hH.nb],hH.nt,hH.nl,fun j hj hh=> ?_,fun i j hi hj li lj he=> ?_,fun k hk hlk=> ?_,fun t' ht=> ?_,hH.τinj,fun k t' hk ht=> ?_,fun l hl=> ?_,hH.linj,hH.glob.step hst⟩⟩
 ·exact hH.base b (by simp at hb;omega)
 ·simp only[List.length_append,List.length_cons,List.length_nil]at hj
  by_cases e:j=H.boxes.length
  ·subst e
   refine⟨us,t,?_,⟨by simpa using hsz,by simp[Ghost.box,hH.nb]⟩,fun i h1 h2=> ?_⟩
   ·simp only[Ghost.box,hH.nb,if_pos];exact hnew
   ·simp only[List.getElem_append_right (Nat.le_refl _),Nat.sub_self,List.getElem_cons_zero]at h2⊢
    exact(hr i h1 h2).step hst
  ·have hj':j<H.boxes.length:=by omega
   have hh':G.hole j=false:=by
    simp only[Ghost.box,hH.nb,if_neg e]at hh;exact hh
   obtain⟨us',e',hb',h1,h2⟩:=hH.box j hj' hh'
   simp only[List.getElem_append_left hj']
   refine⟨us',e',?_,by simpa only[Ghost.box,hH.nb,if_neg e]using h1,fun i j1 j2=>(h2 i j1 j2).step hst⟩
   simp only[Ghost.box,hH.nb,if_neg e]
   rw[old _ (hH.μlt ⟨by rw[hH.nb];exact hj',hh'⟩)]
   exact hb'
 ·by_cases e1:i=G.nb<;>by_cases e2:j=G.nb
  ·omega
  ·have h2:=Ghost.box_on hj e2
   simp only[Ghost.box]at he
   rw[if_pos e1,if_neg e2]at he
   have:=hH.μlt h2;omega
  ·have h2:=Ghost.box_on hi e1
   simp only[Ghost.box]at he
   rw[if_neg e1,if_pos e2]at he
   have:=hH.μlt h2;omega
  ·have h1:=Ghost.box_on hi e1
   have h2:=Ghost.box_on hj e2
   simp only[Ghost.box]at he
   rw[if_neg e1,if_neg e2]at he
   exact hH.μinj i j h1 h2 (live_app (by rw[←hH.nb];exact h1.1) li) (live_app (by rw[←hH.nb];exact h2.1) lj) he
 ·by_cases e1:k=G.nb
  ·simp only[Ghost.box]
   rw[if_pos e1]
   exact hH.base _ (Nat.le_refl _)
  ·have h1:=Ghost.box_on hk e1
   simp only[Ghost.box]
   rw[if_neg e1]
   exact hH.μlim k h1 (live_app (by rw[←hH.nb];exact h1.1) hlk)
 ·obtain⟨h0,us',e',hb',r⟩:=hH.tok t' ht
  exact⟨h0,us',e',by show(w.alloc _).heap[G.τ t']?=_;rw[old _ (hH.τlt (by rw[hH.nt];exact ht))];exact hb',r⟩
 ·show(if k=G.nb then w.heap.size else G.μ k)≠G.τ t'
  have hlt:=hH.τlt (t:=t') ht
  split
  ·omega
  ·rename_i e1;exact hH.μτ k t' (Ghost.box_on hk e1) ht
 ·obtain⟨rec,hb',hr'⟩:=hH.loop l hl
  exact⟨rec,by show(w.alloc _).heap[G.ln l]?=_;rw[old _ (hH.lnlt (by rw[hH.nl];exact hl))];exact hb',hr'.step hst⟩
theorem run_boxA{H:Heap}{x:AV}{v:Value}(hH:HRep P G w H)(hx:Rep G w v x)(h1:x≠.undef)(h2:∀vs,x≠.tuple vs)(e:TypeId):
 (newVar e v).run P w=.ok ⟨w.heap.size,0,none⟩ (w.alloc (.cells v.cells e))∧Step G w (G.box w.heap.size v.cells.size) (w.alloc (.cells v.cells e))∧
   HRep P (G.box w.heap.size v.cells.size) (w.alloc (.cells v.cells e)) (boxA H x).2∧Rep (G.box w.heap.size v.cells.size) (w.alloc (.cells v.cells e)) (.pointer (some ⟨w.heap.size,0,none⟩)) (boxA H x).1:=by
 have hN:∃n,cellsN n x=true:=by
  cases x<;>first|exact⟨1,rfl⟩|exact absurd rfl h1|exact absurd rfl (h2 _)|exact⟨_,by simp[cellsN];rfl⟩
 obtain⟨n,hN⟩:=hN
 obtain⟨hs,hA⟩:=hx.cellsN hN
 obtain⟨a1,a2⟩:=hA.to
 obtain⟨r1,r2⟩:=box_new hH e (us:=v.cells) (cs:=x.cells) (by omega) a2
 refine⟨rfl,r1,r2,?_⟩
 have:=Rep.ptr (G:=G.box w.heap.size v.cells.size) (w:=w.alloc (.cells v.cells e)) G.nb 0 ⟨by simp[Ghost.box],by simp[Ghost.box]⟩
 simp only[Ghost.box,if_pos]at this
 rw[show(boxA H x).1=.ptr G.nb 0 by simp[boxA,hH.nb]]
 exact this
end Go.Aa
set_option linter.unusedVariables false
set_option linter.unusedSimpArgs false
namespace Go.Aa
open Go.RowKit
variable{P:Program}{G G':Ghost}{w w':World}
def flatV(us:Nat→Nat→Value)(es n:Nat):List Value:=(List.range (n*es)).map fun q=>us (q/es) (q%es)
theorem flatV_length(us:Nat→Nat→Value)(es n:Nat):(flatV us es n).length=n*es:=by simp[flatV]
theorem flat_div{i j es:Nat}(hj:j<es):(i*es+j)/es=i∧(i*es+j)%es=j:=by
 have h0:0<es:=by omega
 constructor
 ·rw[Nat.mul_comm,Nat.mul_add_div h0,Nat.div_eq_of_lt hj];rfl
 ·rw[Nat.mul_comm,Nat.mul_add_mod,Nat.mod_eq_of_lt hj]
theorem flatV_get{us:Nat→Nat→Value}{es n i j:Nat}(hi:i<n)(hj:j<es):(flatV us es n)[i*es+j]?=some (us i j):=by
 have hlt:i*es+j<n*es:=by have:=row_le (es:=es) hi;omega
 obtain⟨h1,h2⟩:=flat_div (i:=i) hj
 simp[flatV,hlt,h1,h2]
theorem flatV_at{us:Nat→Nat→Value}{es n q:Nat}{v:Value}(h:(flatV us es n)[q]?=some v)(h0:0<es):q/es<n∧q%es<es∧v=us (q/es) (q%es)∧q=q/es*es+q%es:=by
 have hq:q<n*es:=by
  have:=(List.getElem?_eq_some_iff.1 h).1
  rwa [flatV_length]at this
 simp only[flatV,List.getElem?_map,List.getElem?_range hq,Option.map_some,Option.some.injEq]at h
 exact⟨by rw[Nat.div_lt_iff_lt_mul h0];exact hq,Nat.mod_lt _ h0,h.symm,by rw[Nat.mul_comm];exact(Nat.div_add_mod q es).symm⟩
theorem data0_data{x:AV}(h:data0 x=true){v:Value}(hr:Rep G w v x):x.Data:=by
 cases hr<;>simp only[data0,Bool.false_eq_true]at h<;>first|(constructor;done)|skip
 case sl0 a c k hc ht=>exact .sl _ _ ht (fun x hx=>by cases hx)
 case sl a c k l es us hl hc hcm hs hes he0 hd hlim hcell hrep hfull hown=>exact .sl _ _ (fun t e=>by subst e;simp at h) hd
 case ref a cs us hs hd hlim hcell hrep=>exact .ref _ hd
theorem data0_cell{x:AV}(h:data0 x=true):cellOk x=true:=by
 cases x<;>first|rfl|(simp[data0]at h;done)
theorem Rep.row{b N c es:Nat}{k:SK}{l:List AV}{us:Nat→Nat→Value}{cells:Array Value}{e:TypeId}(hl:l≠[])(hN:l.length=N)(hc:N≤c)(hcm:c≤9223372036854775807)
 (hes:∀i(hi:i<l.length),(l[i]).cells.length=es)(he0:0<es)(hd:∀x∈l,∀y∈x.cells,AV.Data y)(hlim:N*es≤G.lim b)(hb:∃fr,w.heap[b]?=some (.cells cells e fr))
 (hcells:∀i,i<N→∀j,j<es→cells[i*es+j]?=some (us i j))(hrep:∀i(hi:i<l.length)j(hj:j<(l[i]).cells.length),Rep G w (us i j) ((l[i]).cells[j]))
 (hfull:k.tight=true→c=l.length)(hown:∀t,k=.own t→t<G.nt∧es=G.tes t∧l.length≤G.ext t∧(l.length=G.ext t→b=G.τ t∧c=G.cap t)):Rep G w (.slice (some ⟨b,0,none⟩) N c) (.sl k l):=by
 subst hN
 obtain⟨fr,hb⟩:=hb
 refine .sl _ c k l es us hl hc hcm rfl hes he0 hd (by simpa using hlim) (fun i hi j hj=> ?_) hrep hfull (fun t ht=> ?_)
 ·rw[add_off rfl]
  simp only[World.cell?,hb,Option.isSome_none,Bool.false_eq_true,if_false,Nat.zero_add]
  exact hcells i hi j hj
 ·obtain⟨h1,h2,h3,h4⟩:=hown t ht
  exact⟨h1,h2,h3,fun he=>⟨by rw[(h4 he).1],(h4 he).2⟩⟩
def Ghost.tokG(G:Ghost)(n t b N c es:Nat):Ghost:=
 {G with nt:=n,τ:=fun x=>if x=t then b else G.τ x,ext:=fun x=>if x=t then N else G.ext x,cap:=fun x=>if x=t then c else G.cap x,tes:=fun x=>if x=t then es else G.tes x,lim:=fun x=>if x=b then N*es else G.lim x}
theorem HRep.tokN{H:Heap}(hH:HRep P G w H){n t b N c es:Nat}{toks':List Nat}{us:Array Value}{e:TypeId}(hst:Step G w (G.tokG n t b N c es) w')(hn:n=toks'.length)(ht:t<n)(hnt:G.nt≤n)
 (hoth:∀x,x<n→x≠t→x<G.nt∧toks'[x]?=H.toks[x]?)(htok:toks'[t]?=some N)(hold:∀x,x<w.heap.size→x≠b→w'.heap[x]?=w.heap[x]?)(hbase:∀x,w'.heap.size≤x→x≠b)(hsz:w.heap.size≤w'.heap.size)
 (hblk:w'.heap[b]?=some (.cells us e (0,0)))(h0:0<es)(hus:us.size=c*es)(hNc:N≤c)(hc:c≤9223372036854775807)
 (hbμ:∀k,G.on k→G.μ k≠b)(hbτ:∀x,x<G.nt→x≠t→G.τ x≠b)(hbl:∀l,l<G.nl→G.ln l≠b):HRep P (G.tokG n t b N c es) w' {H with toks:=toks'}:=by
 refine⟨fun x hx=> ?_,hH.nb,hn,hH.nl,fun k hk hh=> ?_,hH.μinj,fun k hk hlk=> ?_,fun x hx=> ?_,fun i j hi hj he=> ?_,fun k x hk hx=> ?_,fun l hl=> ?_,hH.linj,hH.glob.step hst⟩
 ·simp only[Ghost.tokG]
  rw[if_neg (hbase x hx)]
  exact hH.base x (Nat.le_trans hsz hx)
 ·obtain⟨us',e',hb',h1,h2⟩:=hH.box k hk hh
  refine⟨us',e',?_,h1,fun i j1 j2=>(h2 i j1 j2).step hst⟩
  show w'.heap[G.μ k]?=_
  rw[hold _ (hH.μlt ⟨by rw[hH.nb];exact hk,hh⟩) (hbμ k ⟨by rw[hH.nb];exact hk,hh⟩)];exact hb'
 ·show(if G.μ k=b then N*es else G.lim (G.μ k))=0
  rw[if_neg (hbμ k hk)];exact hH.μlim k hk hlk
 ·by_cases e':x=t
  ·subst e'
   simp only[Ghost.tokG,if_pos]
   exact⟨(List.getElem?_eq_some_iff.1 htok).2,us,e,hblk,h0,hus,by first|trivial|rfl,hNc,hc⟩
  ·obtain⟨hx1,hx2⟩:=hoth x (by rw[hn];exact hx) e'
   have hx3:x<H.toks.length:=by rw[←hH.nt];exact hx1
   obtain⟨h1,us',e'',hb',r1,r2,r3,r4,r5⟩:=hH.tok x hx3
   have hne:=hbτ x hx1 e'
   simp only[Ghost.tokG,if_neg e',if_neg hne]
   have hg:toks'[x]=H.toks[x]:=by
    rw[List.getElem?_eq_getElem hx3]at hx2
    exact(List.getElem?_eq_some_iff.1 hx2).2
   exact⟨by rw[hg];exact h1,us',e'',by rw[hold _ (hH.τlt hx1) hne];exact hb',r1,r2,r3,r4,r5⟩
 ·simp only[Ghost.tokG]at hi hj he
  by_cases e1:i=t<;>by_cases e2:j=t
  ·omega
  ·rw[if_pos e1,if_neg e2]at he
   exact absurd he.symm (hbτ j (hoth j hj e2).1 e2)
  ·rw[if_neg e1,if_pos e2]at he
   exact absurd he (hbτ i (hoth i hi e1).1 e1)
  ·rw[if_neg e1,if_neg e2]at he
   exact hH.τinj i j (hoth i hi e1).1 (hoth j hj e2).1 he
 ·show G.μ k≠(if x=t then b else G.τ x)
  split
  ·exact hbμ k hk
  ·rename_i e1;exact hH.μτ k x hk (hoth x hx e1).1
 ·obtain⟨rec,hb',hr⟩:=hH.loop l hl
  have hl':l<G.nl:=by rw[hH.nl];exact hl
  refine⟨rec,?_,hr.step hst⟩
  show w'.heap[G.ln l]?=_
  rw[hold _ (hH.lnlt hl') (hbl l hl')];exact hb'
theorem Step.tokGrow{H:Heap}(hH:HRep P G w H){n t N c es:Nat}{o:Obj}(hnt:G.nt≤n)(hoth:∀x,x<n→x≠t→x<G.nt)(hold:t<G.nt→G.ext t<N∧es=G.tes t):
 Step G w (G.tokG n t w.heap.size N c es) (w.drew.alloc o):=by
 refine⟨rfl,rfl,rfl,by simp,fun b=> ?_,fun b off ho=> ?_,Nat.le_refl _,fun _ _=>rfl,fun _ _=>rfl,fun k h=>.inl ⟨k,h,rfl⟩,fun _ _=>rfl,hnt,fun x hx=> ?_,fun x hx he=> ?_,fun x hx=> ?_,fun x hx=> ?_,Nat.le_refl _,fun _ _=>rfl,
  fun _ h1 h2=>absurd h2 (by simp only[Ghost.tokG];omega),fun b hb _ _ _=>⟨?_,?_⟩⟩
 ·simp only[Ghost.tokG]
  split
  ·rename_i e;rw[e,hH.base _ (Nat.le_refl _)];exact Nat.zero_le _
  ·exact Nat.le_refl _
 ·have hlt:b<w.heap.size:=by
   rcases Nat.lt_or_ge b w.heap.size with h'|h'
   ·exact h'
   ·rw[hH.base b h']at ho;omega
  unfold World.cell?
  rw[Below.heap_alloc _ _ _ (by simpa using hlt)]
  rfl
 ·simp only[Ghost.tokG]
  split
  ·rename_i e;subst e;have:=(hold hx).1;omega
  ·exact Nat.le_refl _
 ·simp only[Ghost.tokG]at he⊢
  split at he
  ·rename_i e;subst e;have:=(hold hx).1;omega
  ·rename_i e;rw[if_neg e,if_neg e];exact⟨rfl,rfl⟩
 ·simp only[Ghost.tokG]
  split
  ·rename_i e;subst e;exact(hold hx).2
  ·rfl
 ·simp only[Ghost.tokG]at hx⊢
  by_cases e:x=t
  ·rw[if_pos e];exact .inr (Nat.le_refl _)
  ·rw[if_neg e];exact .inl ⟨hoth x hx e,rfl⟩
 ·exact Below.heap_alloc w.drew o b (by simpa using hb)
 ·simp only[Ghost.tokG];rw[if_neg (by omega)]
theorem Step.tokRoom{H:Heap}(hH:HRep P G w H){t N c es:Nat}{cs:Array Value}(ht:t<G.nt)(hN:G.ext t<N)(hes:es=G.tes t)(hlim:G.lim (G.τ t)=G.ext t*es)
 (hcell:∀j,j<G.ext t*es→(w.setRow (G.τ t) cs).cell? ⟨G.τ t,j,none⟩=w.cell? ⟨G.τ t,j,none⟩):
 Step G w (G.tokG G.nt t (G.τ t) N c es) (w.setRow (G.τ t) cs):=by
 refine⟨rfl,rfl,rfl,by simp,fun b=> ?_,fun b off ho=> ?_,Nat.le_refl _,fun _ _=>rfl,fun _ _=>rfl,fun k h=>.inl ⟨k,h,rfl⟩,fun _ _=>rfl,Nat.le_refl _,fun x hx=> ?_,fun x hx he=> ?_,fun x hx=> ?_,fun x hx=> ?_,Nat.le_refl _,fun _ _=>rfl,
  fun _ h1 h2=>absurd h2 (by simp only[Ghost.tokG];omega),fun b hb _ h2 _=>⟨?_,?_⟩⟩
 ·simp only[Ghost.tokG]
  split
  ·rename_i e;rw[e,hlim];exact Nat.mul_le_mul_right _ (by omega)
  ·exact Nat.le_refl _
 ·by_cases e:b=G.τ t
  ·subst e
   rw[hlim]at ho
   exact hcell off ho
  ·exact cell_setRow_other _ _ _ _ e
 ·simp only[Ghost.tokG]
  split
  ·rename_i e;subst e;omega
  ·exact Nat.le_refl _
 ·simp only[Ghost.tokG]at he⊢
  split at he
  ·rename_i e;subst e;omega
  ·rename_i e;rw[if_neg e,if_neg e];exact⟨rfl,rfl⟩
 ·simp only[Ghost.tokG]
  split
  ·rename_i e;subst e;exact hes
  ·rfl
 ·simp only[Ghost.tokG]at hx⊢
  by_cases e:x=t
  ·rw[if_pos e,e];exact .inl ⟨ht,rfl⟩
  ·rw[if_neg e];exact .inl ⟨hx,rfl⟩
 ·exact setRow_other _ _ _ _ (h2 t ht)
 ·simp only[Ghost.tokG];rw[if_neg (h2 t ht)]
end Go.Aa
set_option linter.unusedVariables false
set_option linter.unusedSimpArgs false
namespace Go.Aa
open Go.RowKit
variable{P:Program}{G G':Ghost}{w w':World}
theorem lenOk_get{es:Nat}{l:List AV}(h:lenOk es l=true){i:Nat}(hi:i<l.length):cellsN es l[i]=true:=List.all_eq_true.1 h _ (List.getElem_mem hi)
theorem dataOk_get{l:List AV}(h:dataOk l=true){i:Nat}(hi:i<l.length){j:Nat}(hj:j<(l[i]).cells.length):data0 (l[i]).cells[j]=true:=
 List.all_eq_true.1 (List.all_eq_true.1 h _ (List.getElem_mem hi)) _ (List.getElem_mem hj)
def joinU(us um:Nat→Nat→Value)(n:Nat):Nat→Nat→Value:=fun i j=>if i<n then us i j else um (i-n) j
theorem join_get{us um:Nat→Nat→Value}{es n m i j:Nat}(hi:i<n+m)(hj:j<es):(flatV us es n++flatV um es m)[i*es+j]?=some (joinU us um n i j):=by
 unfold joinU
 by_cases h:i<n
 ·rw[if_pos h,List.getElem?_append_left (by rw[flatV_length];have:=row_le (es:=es) h;omega)]
  exact flatV_get h hj
 ·rw[if_neg h,List.getElem?_append_right (by rw[flatV_length];have:=Nat.mul_le_mul_right es (show n≤i by omega);omega),flatV_length]
  have e:i*es+j-n*es=(i-n)*es+j:=by
   rw[Nat.sub_mul]
   have:=Nat.mul_le_mul_right es (show n≤i by omega)
   omega
  rw[e]
  exact flatV_get (by omega) hj
theorem Rep.cellsOf{u:Value}{k:SK}{l:List AV}{es:Nat}(hx:Rep G w u (.sl k l))(hl:l≠[])(hok:lenOk es l=true):
 ∃(a:Addr)(c:Nat)(us:Nat→Nat→Value),u=.slice (some a) l.length c∧a.spot=none∧l.length≤c∧c≤9223372036854775807∧0<es∧a.off+l.length*es≤G.lim a.block∧(∀i(hi:i<l.length),(l[i]).cells.length=es)∧
  (∀x∈l,∀y∈x.cells,AV.Data y)∧(∀i,i<l.length→∀j,j<es→w.cell? (a.add (i*es+j))=some (us i j))∧(∀i(hi:i<l.length)j(hj:j<(l[i]).cells.length),Rep G w (us i j) ((l[i]).cells[j]))∧
  (k.tight=true→c=l.length)∧(∀t,k=.own t→t<G.nt∧es=G.tes t∧l.length≤G.ext t∧(l.length=G.ext t→a=⟨G.τ t,0,none⟩∧c=G.cap t)):=by
 cases hx with
 |sl0=>exact absurd rfl hl
 |sl a c k l es' us hl hc hcm hs hes he0 hd hlim hcell hrep hfull hown=>
  have h0:0<l.length:=List.length_pos_iff.2 hl
  have:es'=es:=by rw[←hes 0 h0];exact cells_of_N (lenOk_get hok h0)
  subst this
  exact⟨a,c,us,rfl,hs,hc,hcm,he0,hlim,hes,hd,hcell,hrep,hfull,hown⟩
theorem grownCap_ge(w:World)(need old:Nat)(e:TypeId):need≤grownCap w need old e:=by
 show need≤need+_%_
 exact Nat.le_add_right _ _
theorem grownCap_lt(w:World){need old:Nat}(e:TypeId)(h:need<2^63):grownCap w need old e≤9223372036854775807:=by
 show need+_%(2^63-need)≤_
 have:=Nat.mod_lt (w.tape w.drawn (.appendCap need old e)) (show 0<2^63-need by omega)
 omega
section
variable{H:Heap}{t u e e2 ty:TypeId}{i:TypeInfo}{z:Value}
theorem joined_data{l m:List AV}{es:Nat}(hes:∀i(hi:i<l.length),(l[i]).cells.length=es)(hem:lenOk es m=true)(hd:∀x∈l,∀y∈x.cells,AV.Data y)(hdm:∀x∈m,∀y∈x.cells,AV.Data y):
 (∀i(hi:i<(l++m).length),((l++m)[i]).cells.length=es)∧(∀x∈l++m,∀y∈x.cells,AV.Data y):=by
 refine⟨fun i hi=> ?_,fun x hx=> ?_⟩
 ·rw[List.getElem_append]
  split
  ·exact hes i _
  ·exact cells_of_N (lenOk_get hem _)
 ·rcases List.mem_append.1 hx with h|h
  ·exact hd x h
  ·exact hdm x h
theorem joined_rep{l m:List AV}{us um:Nat→Nat→Value}(hr:∀i(hi:i<l.length)j(hj:j<(l[i]).cells.length),Rep G w (us i j) ((l[i]).cells[j]))
 (hm:∀i(hi:i<m.length)j(hj:j<(m[i]).cells.length),Rep G w (um i j) ((m[i]).cells[j])):
 ∀i(hi:i<(l++m).length)j(hj:j<((l++m)[i]).cells.length),Rep G w (joinU us um l.length i j) (((l++m)[i]).cells[j]):=by
 intro i hi j hj
 unfold joinU
 by_cases h:i<l.length
 ·rw[if_pos h]
  have e:(l++m)[i]=l[i]:=List.getElem_append_left h
  have:=hr i h j (by rw[e]at hj;exact hj)
  simpa[e]using this
 ·rw[if_neg h]
  have hi':i-l.length<m.length:=by simp at hi;omega
  have e:(l++m)[i]=m[i-l.length]:=List.getElem_append_right (by omega)
  have:=hm (i-l.length) hi' j (by rw[e]at hj;exact hj)
  simpa[e]using this
theorem run_appendA {x y z' : AV} {H' : Heap} {ux uy : Value} (hH : HRep P G w H) (hx : Rep G w ux x) (hy : Rep G w uy y) (h : appendA i.size i.bytes H x y = some (z', H'))
    (ht : P.underlying t = some (.slice e)) (hu : P.underlying u = some (.slice e2)) (hi : P.info? e = some i) (hz : i.zero = some z) (hzs : z.cells.size = i.size) (h0 : 0 < i.size) (h0b : 0 < i.bytes) :
    ∃ r w' G', (Builtin.append_ #[t, u] ty #[ux, uy]).run P w = .ok r w' ∧ Step G w G' w' ∧ HRep P G' w' H' ∧ Rep G' w' r z' := by
  unfold appendA at h
  split at h
  · rename_i k l k' m
    cases m with
    | nil =>
      simp only [Option.some.injEq, Prod.mk.injEq] at h
      obtain ⟨rfl, rfl⟩ := h
      have hsrc : Src P i.size u uy 0 [] w := by
        cases hy with
        | sl0 a c =>
          cases a with
          | none => exact Src.ofNil w hu c
          | some a => exact Src.ofSlice w hu a 0 c [] (by simp) (by simp) (by simp)
        | sl _ _ _ _ _ _ hl => exact absurd rfl hl
      have hle : ∃ a n c, ux = .slice a n c ∧ n ≤ c := by
        cases hx with
        | sl0 a c => exact ⟨a, 0, c, rfl, Nat.zero_le _⟩
        | sl a c _ _ _ _ _ hc => exact ⟨some a, _, c, rfl, hc⟩
      obtain ⟨a, n, c, rfl, hnc⟩ := hle
      exact ⟨_, w, G, run_append_nothing w t u ty e i ht hi a n c hnc _ hsrc, .refl _ _, hH, hx⟩
    | cons m0 m' =>
      simp only at h
      split at h
      · rename_i hcond
        obtain ⟨hbytes, hokl, hokm, hdm⟩ := hcond
        generalize hm : m0 :: m' = m at *
        have hmne : m ≠ [] := by rw [← hm]; simp
        obtain ⟨am, cm, um, rfl, hsm, hcm, hcmm, he0, hlimm, hesm, hdatam, hcellm, hrepm, _, _⟩ := hy.cellsOf hmne hokm
        have hmpos : 0 < m.length := List.length_pos_iff.2 hmne
        have honem : ∀ v ∈ flatV um i.size m.length, v.oneCell' = true := by
          intro v hv
          obtain ⟨q, hq⟩ := List.mem_iff_getElem?.1 hv
          obtain ⟨h1, h2, rfl, _⟩ := flatV_at hq he0
          have hj : q % i.size < (m[q / i.size]).cells.length := by rw [hesm _ h1]; exact h2
          exact (hrepm _ h1 _ hj).one (data0_cell (dataOk_get hdm h1 hj))
        have hsrc : Src P i.size u (.slice (some am) m.length cm) m.length (flatV um i.size m.length) w :=
          Src.ofSlice w hu am m.length cm _ (flatV_length _ _ _) (fun q v hq => by
            obtain ⟨h1, h2, rfl, h3⟩ := flatV_at hq he0
            have := hcellm _ h1 _ h2
            rwa [← h3] at this) honem
        have hnb : 0 < (l.length + m.length) := by omega
        have hfit : ∀ c, c < l.length + m.length → Builtin.nextslicecap (l.length + m.length) c * i.bytes ≤ 281474976710656 := fun c hc => growslice_fits hc hbytes
        -- the way in which a new row is made
        have grow : ∀ (base : Option Addr) (c : Nat) (us : Nat → Nat → Value) (n tt : Nat) (toks' : List Nat), c < l.length + m.length → i.bytes ≠ 0 → ux = .slice base l.length c →
            (Builtin.firstCells i.size l.length (.slice base l.length c)).run P w.drew = .ok (flatV us i.size l.length).toArray w.drew →
            (∀ i' (hi : i' < l.length), (l[i']).cells.length = i.size) → (∀ x ∈ l, ∀ y ∈ x.cells, AV.Data y) →
            (∀ i' (hi : i' < l.length) j (hj : j < (l[i']).cells.length), Rep G w (us i' j) ((l[i']).cells[j])) →
            n = toks'.length → tt < n → G.nt ≤ n → (∀ x, x < n → x ≠ tt → x < G.nt ∧ toks'[x]? = H.toks[x]?) → toks'[tt]? = some (l.length + m.length) → (tt < G.nt → G.ext tt < l.length + m.length ∧ i.size = G.tes tt) →
            ∃ r w' G', (Builtin.append_ #[t, u] ty #[ux, .slice (some am) m.length cm]).run P w = .ok r w' ∧ Step G w G' w' ∧ HRep P G' w' { H with toks := toks' } ∧ Rep G' w' r (.sl (.own tt) (l ++ m)) := by
          intro base c us n tt toks' hc hb0 hux hfirst hesl hdl hrl hn htt hnt hoth htok hold
          subst hux
          have h63 : l.length + m.length < 2 ^ 63 := by
            have : (l.length + m.length) * 1 ≤ (l.length + m.length) * i.bytes := Nat.mul_le_mul_left _ (by omega)
            omega
          have hrun := run_append_grow_src (P := P) w t u ty e i z ht hi hz base l.length c (flatV us i.size l.length) hfirst _ m.length _ hsrc hc (by omega) (hfit c hc)
          generalize hcap : grownCap w (l.length + m.length) c e = cap at hrun
          have hcap1 : l.length + m.length ≤ cap := by rw [← hcap]; exact grownCap_ge _ _ _ _
          have hcap2 : cap ≤ 9223372036854775807 := by rw [← hcap]; exact grownCap_lt _ _ h63
          generalize hblk : ((flatV us i.size l.length ++ flatV um i.size m.length).toArray ++ Builtin.zeroCells z.cells (cap - (l.length + m.length))) = blk at hrun
          have hst := Step.tokGrow (n := n) (t := tt) (N := l.length + m.length) (c := cap) (es := i.size) (o := .cells blk e) hH hnt (fun x h1 h2 => (hoth x h1 h2).1) hold
          have hnew : (w.drew.alloc (.cells blk e)).heap[w.heap.size]? = some (.cells blk e (0, 0)) := by
            show (w.heap.push _)[w.heap.size]? = _
            simp
          have hblks : blk.size = cap * i.size := by
            rw [← hblk]
            simp only [Array.size_append, List.size_toArray, List.length_append, flatV_length, size_zeroCells, hzs]
            rw [← Nat.add_mul, ← Nat.add_mul]
            congr 1; omega
          have hHN := HRep.tokN (us := blk) (e := e) hH hst hn htt hnt hoth htok (fun x h1 h2 => Below.heap_alloc w.drew _ x h1) (fun x hx => by simp at hx; omega) (by simp) hnew h0 hblks hcap1 hcap2
            (fun k hk => by have := hH.μlt hk; omega) (fun x hx _ => by have := hH.τlt hx; omega) (fun l hl => by have := hH.lnlt hl; omega)
          refine ⟨_, _, _, hrun, hst, hHN, ?_⟩
          obtain ⟨j1, j2⟩ := joined_data hesl hokm hdl hdatam
          refine Rep.row (us := joinU us um l.length) (es := i.size) (cells := blk) (e := e) (by simp [hmne]) (by simp) hcap1 hcap2 j1 h0 j2 ?_ ⟨_, hnew⟩ (fun q hq j hj => ?_)
            (joined_rep (fun a b c d => (hrl a b c d).step hst) (fun a b c d => (hrepm a b c d).step hst)) (fun e => by cases e) (fun t' e => ?_)
          · simp [Ghost.tokG]
          · rw [← hblk]
            have hlt : q * i.size + j < (flatV us i.size l.length ++ flatV um i.size m.length).length := by
              have := row_le (es := i.size) hq
              simp only [List.length_append, flatV_length]
              rw [← Nat.add_mul]; omega
            rw [Array.getElem?_append_left (by simpa using hlt)]
            rw [List.getElem?_toArray]
            exact join_get hq hj
          · cases e
            refine ⟨htt, by simp [Ghost.tokG], by simp [Ghost.tokG], fun _ => ⟨by simp [Ghost.tokG], by simp [Ghost.tokG]⟩⟩
        have hb0 : i.bytes ≠ 0 := by omega
        cases k with
        | sh => simp at h
        | nil => simp at h
        | full =>
          simp only [Option.some.injEq, Prod.mk.injEq] at h
          obtain ⟨rfl, rfl⟩ := h
          have hgen : ∀ (base : Option Addr) (us : Nat → Nat → Value), ux = .slice base l.length l.length → (Builtin.firstCells i.size l.length (.slice base l.length l.length)).run P w.drew = .ok (flatV us i.size l.length).toArray w.drew →
              (∀ i' (hi : i' < l.length), (l[i']).cells.length = i.size) → (∀ x ∈ l, ∀ y ∈ x.cells, AV.Data y) → (∀ i' (hi : i' < l.length) j (hj : j < (l[i']).cells.length), Rep G w (us i' j) ((l[i']).cells[j])) → _ :=
            fun base us h1 h2 h3 h4 h5 => grow base l.length us (H.toks.length + 1) H.toks.length (H.toks ++ [l.length + m.length]) (by omega) hb0 h1 h2 h3 h4 h5 (by simp) (by omega) (by rw [hH.nt]; omega)
              (fun x h1 h2 => ⟨by rw [hH.nt]; omega, List.getElem?_append_left (by omega)⟩) (by simp) (fun hlt => by rw [hH.nt] at hlt; omega)
          by_cases hl : l = []
          · subst hl
            cases hx with
            | sl0 a c _ hc _ =>
              have hc0 := hc rfl
              subst hc0
              refine hgen a (fun _ _ => undef) rfl ?_ (fun i' hi' => absurd hi' (by simp)) (fun x hx => by cases hx) (fun i' hi' => absurd hi' (by simp))
              cases a with
              | none => simp [Builtin.firstCells, flatV]
              | some a => simp [Builtin.firstCells, flatV, loadCells, loadCellsFrom]
            | sl _ _ _ _ _ _ hl => exact absurd rfl hl
          · obtain ⟨a, c, us, rfl, hs, hc, hcm2, _, hlim, hes, hdl, hcell, hrep, hfull, _⟩ := hx.cellsOf hl hokl
            have := hfull rfl
            subst this
            refine hgen (some a) us rfl (run_firstCells_some (P := P) w.drew i.size l.length a l.length l.length _ (flatV_length _ _ _) (fun q v hq => by
              obtain ⟨h1, h2, rfl, h3⟩ := flatV_at hq he0
              have := hcell _ h1 _ h2
              rw [← h3] at this
              exact this)) hes hdl hrep
        | own tt =>
          simp only at h
          split at h
          · rename_i htok
            simp only [Option.some.injEq, Prod.mk.injEq] at h
            obtain ⟨rfl, rfl⟩ := h
            obtain ⟨htl, htv⟩ := List.getElem?_eq_some_iff.1 htok
            by_cases hl : l = []
            · subst hl
              cases hx with
              | sl0 a c _ hc ht => exact absurd rfl (ht tt)
              | sl _ _ _ _ _ _ hl => exact absurd rfl hl
            · obtain ⟨a, c, us, rfl, hs, hc, hcm2, _, hlim, hes, hdl, hcell, hrep, _, hown⟩ := hx.cellsOf hl hokl
              obtain ⟨ho1, ho2, ho3, ho4⟩ := hown tt rfl
              obtain ⟨hte, bus, be, hbb, hb1, hb2, hb3, hb4, hb5⟩ := hH.tok tt htl
              have hext : l.length = G.ext tt := by rw [← hte, htv]
              obtain ⟨rfl, rfl⟩ := ho4 hext
              by_cases hroom : l.length + m.length ≤ G.cap tt
              · -- in place
                have hfits : l.length * i.size + (flatV um i.size m.length).length ≤ bus.size := by
                  rw [flatV_length, hb2, ← ho2, ← Nat.add_mul]
                  exact Nat.mul_le_mul_right _ hroom
                have hstc := run_storeCells_at P (G.τ tt) (l.length * i.size) be (flatV um i.size m.length) 0 bus w hbb (by simpa using hfits) honem
                simp only [Nat.add_zero] at hstc
                generalize hblk : (bus.toList.take (l.length * i.size) ++ flatV um i.size m.length ++ bus.toList.drop (l.length * i.size + (flatV um i.size m.length).length)).toArray = blk at hstc
                have hrun : (Builtin.append_ #[t, u] ty #[.slice (some ⟨G.τ tt, 0, none⟩) l.length (G.cap tt), .slice (some am) m.length cm]).run P w =
                    .ok (.slice (some ⟨G.τ tt, 0, none⟩) (l.length + m.length) (G.cap tt)) (w.setRow (G.τ tt) blk) := by
                  have hf := hsrc.cells
                  simp [Builtin.append_, run_underlying ht, run_underlying hu, sizeOf, typeInfo, hi, Builtin.lenOf, hroom, hf, Addr.add_lit, hstc]
                have hblks : blk.size = bus.size := by
                  rw [← hblk]
                  simp only [List.size_toArray, List.length_append, List.length_take, List.length_drop, Array.length_toList]
                  omega
                have hnew := setRow_heap w (G.τ tt) bus blk be (0, 0) hbb
                have hlow : ∀ j, j < l.length * i.size → blk[j]? = bus[j]? := fun j hj => by
                  rw [← hblk, List.getElem?_toArray, List.append_assoc, List.getElem?_append_left (by simp; rw [flatV_length] at hfits; omega)]
                  simp [List.getElem?_take, hj]
                have hst := Step.tokRoom (t := tt) (N := l.length + m.length) (c := G.cap tt) (es := i.size) (cs := blk) hH ho1 (by omega) ho2 (by rw [hb3, ho2]) (fun j hj => by
                  rw [cell_setRow_same w _ j bus blk be (0, 0) hbb, hlow j (by rw [hext]; exact hj)]
                  simp [World.cell?, hbb])
                have hHN := HRep.tokN (us := blk) (e := be) (toks' := H.toks.set tt (l.length + m.length)) hH hst (by rw [hH.nt]; simp) ho1 (Nat.le_refl _) (fun x h1 h2 => ⟨h1, by rw [List.getElem?_set_ne (Ne.symm h2)]⟩) (by simp [htl])
                  (fun x _ h2 => setRow_other _ _ _ _ h2) (fun x hx => by have := hH.τlt ho1; simp at hx; omega) (by simp) hnew h0 (by rw [hblks, hb2, ho2]) hroom hb5
                  (fun k hk => hH.μτ k tt hk ho1) (fun x hx hne e => hne (hH.τinj x tt hx ho1 e)) (fun l hl e => hH.τln ho1 hl e.symm)
                refine ⟨_, _, _, hrun, hst, hHN, ?_⟩
                obtain ⟨j1, j2⟩ := joined_data hes hokm hdl hdatam
                refine Rep.row (us := joinU us um l.length) (es := i.size) (cells := blk) (e := be) (by simp [hmne]) (by simp) hroom hb5 j1 h0 j2 ?_ ⟨_, hnew⟩ (fun q hq j hj => ?_)
                  (joined_rep (fun a b c d => (hrep a b c d).step hst) (fun a b c d => (hrepm a b c d).step hst)) (fun e => by cases e) (fun t' e => ?_)
                · simp [Ghost.tokG]
                · by_cases hql : q < l.length
                  · have hlt := row_le (es := i.size) hql
                    rw [hlow _ (by omega)]
                    have := hcell q hql j hj
                    rw [add_off rfl] at this
                    simp only [World.cell?, hbb, Option.isSome_none, Bool.false_eq_true, if_false, Nat.zero_add] at this
                    rw [this]; simp [joinU, hql]
                  · have hle := Nat.mul_le_mul_right i.size (show l.length ≤ q by omega)
                    have hq' : q - l.length < m.length := by omega
                    have e : q * i.size + j = l.length * i.size + ((q - l.length) * i.size + j) := by rw [Nat.sub_mul]; omega
                    have hlt : (q - l.length) * i.size + j < (flatV um i.size m.length).length := by rw [flatV_length]; have := row_le (es := i.size) hq'; omega
                    rw [← hblk, List.getElem?_toArray, List.append_assoc, List.getElem?_append_right (by simp; omega)]
                    have e2 : q * i.size + j - (bus.toList.take (l.length * i.size)).length = (q - l.length) * i.size + j := by
                      simp only [List.length_take, Array.length_toList]
                      rw [Nat.min_eq_left (by omega)]; omega
                    rw [e2, List.getElem?_append_left hlt, flatV_get hq' hj]
                    simp [joinU, hql]
                · cases e
                  exact ⟨ho1, by simp [Ghost.tokG], by simp [Ghost.tokG], fun _ => ⟨by simp [Ghost.tokG], by simp [Ghost.tokG]⟩⟩
              · refine grow (some ⟨G.τ tt, 0, none⟩) (G.cap tt) us G.nt tt (H.toks.set tt (l.length + m.length)) (by omega) hb0 rfl (run_firstCells_some (P := P) w.drew i.size l.length _ l.length _ _ (flatV_length _ _ _) (fun q v hq => by
                  obtain ⟨h1, h2, rfl, h3⟩ := flatV_at hq he0
                  have := hcell _ h1 _ h2
                  rw [← h3] at this
                  exact this)) hes hdl hrep (by rw [hH.nt]; simp) ho1 (Nat.le_refl _) (fun x h1 h2 => ⟨h1, by rw [List.getElem?_set_ne (Ne.symm h2)]⟩) (by simp [htl]) (fun _ => ⟨by omega, ho2⟩)
          · cases h
      · cases h
  · cases h
end
end Go.Aa
set_option linter.unusedVariables false
set_option linter.unusedSimpArgs false
namespace Go.Aa
open Go.RowKit
variable{P:Program}{G G':Ghost}{w w':World}
theorem pasteV_get:∀(vs cells:List Value)(off q:Nat),off+vs.length≤cells.length→(pasteV cells off vs)[q]?=if off≤q∧q<off+vs.length then vs[q-off]? else cells[q]?:=by
 intro vs cells off q h
 rw[pasteV_spec vs cells off h,List.append_assoc]
 by_cases h1:q<off
 ·rw[if_neg (by omega),List.getElem?_append_left (by simp;omega)]
  simp[List.getElem?_take,h1]
 ·rw[List.getElem?_append_right (by simp;omega)]
  have e:(cells.take off).length=off:=by simp;omega
  rw[e]
  by_cases h2:q<off+vs.length
  ·rw[if_pos ⟨by omega,h2⟩,List.getElem?_append_left (by omega)]
  ·rw[if_neg (by omega),List.getElem?_append_right (by omega),List.getElem?_drop]
   congr 1;omega
theorem fill_rows(es:Nat):∀(vals:List Value)(s:Nat)(cells:Array Value),(∀v∈vals,v.cells.size=es)→(s+vals.length)*es≤cells.size→
 ∃out,Instr.fill (fun i=>some (i*es,es)) cells (vals.zipIdx s|>.map fun p=>(p.2,p.1))=some out∧out.size=cells.size∧(∀q,q<s*es→out[q]?=cells[q]?)∧
  ∀i(hi:i<vals.length)j,j<es→out[(s+i)*es+j]?=(vals[i]).cells[j]?:=by
 intro vals
 induction vals with
 |nil=>intro s cells _ _;exact⟨cells,rfl,rfl,fun _ _=>rfl,fun i hi=>absurd hi (by simp)⟩
 |cons v vals ih=>
  intro s cells hv hle
  have hvs:=hv v (by simp)
  simp only[List.zipIdx_cons,List.map_cons,Instr.fill]
  have hlen:s*es+es≤cells.size:=by
   have:=Nat.mul_le_mul_right es (show s+1≤s+(v::vals).length by simp)
   rw[Nat.add_mul]at this;omega
  rw[if_neg (by simp[hvs];omega)]
  generalize hc:v.cells.zipIdx.foldl (fun cs(x:Value×Nat)=>match x with|(c,j)=>cs.setIfInBounds (s*es+j) c) cells=cells'
  have e2:cells'.toList=pasteV cells.toList (s*es) v.cells.toList:=by
   rw[←hc]
   have e:=foldl_paste v.cells.toList cells (s*es) 0
   rw[Nat.add_zero]at e
   rw[←e,←Array.foldl_toList,Array.toList_zipIdx]
  have hget:∀q,cells'[q]?=if s*es≤q∧q<s*es+es then v.cells[q-s*es]? else cells[q]?:=by
   intro q
   rw[←Array.getElem?_toList,e2,pasteV_get _ _ _ _ (by simp[hvs];omega)]
   simp[hvs]
  have hsz:cells'.size=cells.size:=by
   rw[←Array.length_toList,e2,pasteV_spec _ _ _ (by simp[hvs];omega)]
   simp[hvs];omega
  obtain⟨out,h1,h2,h3,h4⟩:=ih (s+1) cells' (fun x hx=>hv x (by simp[hx])) (by rw[hsz];simpa[Nat.add_assoc,Nat.add_comm 1]using hle)
  refine⟨out,h1,by rw[h2,hsz],fun q hq=> ?_,fun i hi j hj=> ?_⟩
  ·rw[h3 q (by rw[Nat.add_mul];omega),hget,if_neg (by omega)]
  ·cases i with
   |zero=>
    rw[Nat.add_zero,h3 _ (by rw[Nat.add_mul];omega),hget,if_pos ⟨by omega,by omega⟩]
    simp
   |succ i=>
    have:=h4 i (by simpa using hi) j hj
    rw[show s+(i+1)=s+1+i by omega,this]
    simp
theorem Rep.shut2{v:Value}{x:AV}(h:Rep G w v x):Rep G w v (shut2 x):=by
 cases x<;>try exact h.shut1
 rename_i cs
 cases h with
 |agg us _ hn hr=>exact .agg us _ (by simp[hn]) fun i h1 h2=>by simpa using(hr i h1 (by simpa using h2)).shut1
theorem Rep.shut{v:Value}{x:AV}(h:Rep G w v x):Rep G w v (shutA x):=by
 cases x<;>try exact h.shut2
 rename_i cs
 cases h with
 |tuple us _ hn hr=>exact .tuple us _ (by simp[hn]) fun i h1 h2=>by simpa using(hr i h1 (by simpa using h2)).shut2
theorem run_bslice{n:Nat}{a:Act}{T:Env}{t e:TypeId}{es m:Nat}{parts:Array (Nat×Operand)}{xs:List Opd}{H:Heap}(hH:HRep P G w H)(hT:TRep G w n a.tmps T)
 (ht:P.underlying t=some (.slice e))(he:sizeT P e=some es)(hxs:cOpds (parts.toList.map (·.2))=some xs)(hidx:parts.toList.map (·.1)=List.range m)(h0:0<es)(hbig:m*es≤16777216)
 (hz:((P.info? e).bind (·.zero)).any (fun z=>z.cells.size==es)=true)
 (hok:lenOk es (xs.map fun x=>shut2 (ev T x))=true)(hd:dataOk (xs.map fun x=>shut2 (ev T x))=true):
 ∃r w' G',(Instr.buildSlice t m (parts.map fun(i,x)=>(i,a.eval x))).run P w=.ok r w'∧Grow G w G' w'∧Rep G' w' r (.sl .full (xs.map fun x=>shut2 (ev T x))):=by
 obtain⟨hl,hr⟩:=cOpds_rep (a:=a) hT hxs
 generalize hvals:parts.toList.map (fun p=>a.eval p.2)=vals
 generalize hL:xs.map (fun x=>shut2 (ev T x))=L at*
 have hlv:vals.length=m:=by
  have:=congrArg List.length hidx
  rw[←hvals];simpa using this
 have hlL:L.length=m:=by
  rw[←hL,List.length_map,←hl,List.length_map]
  have:=congrArg List.length hidx
  simpa using this
 have hrv:∀i(h1:i<vals.length)(h2:i<L.length),Rep G w vals[i] L[i]:=by
  intro i h1 h2
  subst hL;subst hvals
  simp only[List.getElem_map]
  have:=hr i (by simpa using h1) (by simpa using h2)
  simp only[List.getElem_map]at this
  exact this.shut2
 have hparts:(parts.map fun(i,x)=>(i,a.eval x)).toList=vals.zipIdx.map fun p=>(p.2,p.1):=by
  subst hvals
  apply List.ext_getElem?
  intro i
  have:=congrArg (fun l=>l[i]?) hidx
  simp only[List.getElem?_map]at this
  simp only[Array.toList_map,List.getElem?_map,List.getElem?_zipIdx,Nat.zero_add]
  cases hp:parts.toList[i]? with
  |none=>simp
  |some p=>
   rw[hp]at this
   simp only[Option.map_some]at this⊢
   have hi:i<m:=by
    rcases Nat.lt_or_ge i m with h'|h'
    ·exact h'
    ·rw[List.getElem?_eq_none (by simpa using h')]at this;cases this
   rw[List.getElem?_range hi]at this
   simp only[Option.some.injEq]at this
   rw[this]
 have hsz:(sizeOf e).run P w=.ok es w:=run_sizeT he
 have hcs:∀v∈vals,v.cells.size=es:=by
  intro v hv
  obtain⟨i,hi,rfl⟩:=List.getElem_of_mem hv
  exact((hrv i hi (by omega)).cellsN (lenOk_get hok (by omega))).1
 cases hinfo:P.info? e with
 |none=>simp[hinfo]at hz
 |some inf=>
  cases hzero:inf.zero with
  |none=>simp[hinfo,hzero]at hz
  |some z=>
   simp only[hinfo,Option.bind_some,hzero,Option.any_some,beq_iff_eq]at hz
   rcases Nat.eq_zero_or_pos m with hm|hm
   ·subst hm
    have hL0:L=[]:=List.eq_nil_of_length_eq_zero hlL
    have hv0:vals=[]:=List.eq_nil_of_length_eq_zero hlv
    subst hL0;subst hv0
    refine⟨.slice (some ⟨w.heap.size,0,none⟩) 0 0,w.alloc (.cells #[] e),G.set w.heap.size 0,?_,Grow.alloc hH.base _ 0,.sl0 _ _ _ (fun _=>rfl) (fun t e=>by cases e)⟩
    have hp0:(parts.map fun(i,x)=>(i,a.eval x)).toList=[]:=by rw[hparts];rfl
    simp only[Instr.buildSlice,Sem.run_bind,run_underlying ht,Result.andThen_ok,hsz,Nat.zero_mul,show¬(0>2^24)by decide,if_false,Sem.run_pure,if_true,hp0,Instr.fill,newRow]
    have e0:∀f:Nat→Value,Array.map f (Array.range 0)= #[]:=fun f=>by simp
    simp only[e0]
    rfl
   ·obtain⟨out,h1,h2,_,h4⟩:=fill_rows es vals 0 ((Array.range (m*es)).map (z.cells[·%z.cells.size]!)) hcs (by simp[hlv])
    have hne:m*es≠0:=Nat.mul_ne_zero (by omega) (by omega)
    have hg:=Grow.alloc hH.base (.cells out e) (m*es)
    have hnew:(w.alloc (.cells out e)).heap[w.heap.size]?=some (.cells out e (0,0)):=by
     show(w.heap.push _)[w.heap.size]?=_
     simp
    have hst:=hg.step hH.base
    refine⟨.slice (some ⟨w.heap.size,0,none⟩) m m,w.alloc (.cells out e),_,?_,hg,?_⟩
    ·have hzv:(zeroValue e).run P w=.ok z w:=by simp[zeroValue,typeInfo,hinfo,hzero]
     simp only[Instr.buildSlice,Sem.run_bind,run_underlying ht,Result.andThen_ok,hsz,show¬(m*es>2^24)by omega,if_false,Sem.run_pure,hne,hzv,Sem.run_ite,newRow,hparts]
     simp only[h1]
     rfl
    ·refine Rep.row (us:=fun i j=>((vals.getD i undef).cells.getD j undef)) (es:=es) (cells:=out) (e:=e) (by intro h;rw[h]at hlL;simp at hlL;omega) hlL (Nat.le_refl _) (by have:=Nat.le_mul_of_pos_right m h0;omega)
      (fun i hi=>cells_of_N (lenOk_get hok hi)) h0 (fun x hx y hy=> ?_) (by simp[Ghost.set]) ⟨_,hnew⟩ (fun i hi j hj=> ?_) (fun i hi j hj=> ?_) (fun _=>hlL.symm) (fun t e=>by cases e)
     ·obtain⟨i,hi,rfl⟩:=List.getElem_of_mem hx
      obtain⟨j,hj,rfl⟩:=List.getElem_of_mem hy
      have hA:=(hrv i (by omega) hi).cellsN (lenOk_get hok hi)
      exact data0_data (dataOk_get hd hi hj) (hA.2.2 j (by rw[hA.2.1];exact hj) hj)
     ·have hi':i<vals.length:=by omega
      have:=h4 i hi' j hj
      rw[Nat.zero_add]at this
      have hcj:j<(vals[i]).cells.size:=by rw[hcs _ (List.getElem_mem hi')];exact hj
      rw[this]
      simp[List.getD,hi',Array.getD,hcj]
     ·have hi':i<vals.length:=by omega
      have hA:=(hrv i hi' hi).cellsN (lenOk_get hok hi)
      have hcj:j<(vals[i]).cells.size:=by rw[hA.1,←cells_of_N (lenOk_get hok hi)];exact hj
      have:=(hA.2.2 j (by simpa using hcj) hj).step hst
      simpa[List.getD,hi',Array.getD,hcj]using this
end Go.Aa
set_option linter.unusedVariables false
set_option linter.unusedSimpArgs false
namespace Go.Aa
open Go.RowKit
variable{P:Program}{G G':Ghost}{w w':World}{H:Heap}
theorem rowCells_len{es:Nat}:∀{l:List AV},lenOk es l=true→(rowCells l).length=l.length*es
 |[],_=>by simp[rowCells]
 |x::l,h=>by
  simp only[lenOk,List.all_cons,Bool.and_eq_true]at h
  have ih:=rowCells_len (l:=l) h.2
  simp only[rowCells,List.flatMap_cons,List.length_append,List.length_cons]at ih⊢
  rw[ih,cells_of_N h.1,Nat.add_mul];omega
theorem rowCells_get{es:Nat}:∀{l:List AV},lenOk es l=true→∀i(hi:i<l.length)j(hj:j<(l[i]).cells.length),(rowCells l)[i*es+j]?=some ((l[i]).cells[j])
 |[],_,i,hi,_,_=>absurd hi (by simp)
 |x::l,h,i,hi,j,hj=>by
  simp only[lenOk,List.all_cons,Bool.and_eq_true]at h
  have hx:=cells_of_N h.1
  simp only[rowCells,List.flatMap_cons]
  cases i with
  |zero=>
   simp only[List.getElem_cons_zero]at hj⊢
   rw[Nat.zero_mul,Nat.zero_add,List.getElem?_append_left hj,List.getElem?_eq_getElem hj]
  |succ i=>
   simp only[List.getElem_cons_succ]at hj⊢
   have e:(i+1)*es+j=es+(i*es+j):=by rw[Nat.add_mul];omega
   rw[e,List.getElem?_append_right (by omega),hx,Nat.add_sub_cancel_left]
   exact rowCells_get h.2 i (by simpa using hi) j hj
theorem row_reads{es:Nat}{l:List AV}{vs:Array Value}(hok:lenOk es l=true)(h0:0<es)(h:∀i(hi:i<l.length)j(hj:j<(l[i]).cells.length),∃v,vs[i*es+j]?=some v∧Rep G w v ((l[i]).cells[j])):
 ∀q(h1:q<vs.size)(h2:q<(rowCells l).length),Rep G w vs[q] (rowCells l)[q]:=by
 intro q h1 h2
 have hlen:=rowCells_len hok
 rw[hlen]at h2
 have hi:q/es<l.length:=by rw[Nat.div_lt_iff_lt_mul h0];exact h2
 have hj:q%es<(l[q/es]).cells.length:=by rw[cells_of_N (lenOk_get hok hi)];exact Nat.mod_lt _ h0
 have eq:q/es*es+q%es=q:=by rw[Nat.mul_comm];exact Nat.div_add_mod q es
 obtain⟨v,hv,hr⟩:=h _ hi _ hj
 rw[eq]at hv
 have hc:=rowCells_get hok _ hi _ hj
 rw[eq]at hc
 obtain⟨_,e1⟩:=Array.getElem?_eq_some_iff.1 hv
 obtain⟨_,e2⟩:=List.getElem?_eq_some_iff.1 hc
 rw[e1,e2];exact hr
theorem live_kill{k j:Nat}(h:LiveB {H with boxes:=H.boxes.set k []} j):LiveB H j∧j≠k∨H.boxes.length≤k∧LiveB H j:=by
 unfold LiveB at h⊢
 simp only at h
 by_cases e:k=j
 ·subst e
  by_cases hk:k<H.boxes.length
  ·rw[List.getElem?_set_self hk]at h;exact absurd rfl h
  ·refine .inr ⟨by omega,?_⟩
   rw[List.getElem?_eq_none (by omega)];simp
 ·rw[List.getElem?_set_ne e]at h
  exact .inl ⟨h,fun e2=>e e2.symm⟩
theorem HRep.kill(hH:HRep P G w H)(k:Nat):HRep P G w {H with boxes:=H.boxes.set k []}:=by
 have hl:∀j,LiveB {H with boxes:=H.boxes.set k []} j→LiveB H j:=fun j h=>by
  rcases live_kill h with h|h
  ·exact h.1
  ·exact h.2
 refine⟨hH.base,by simp[hH.nb],hH.nt,hH.nl,fun j hj hh=> ?_,fun i j hi hj li lj=>hH.μinj i j hi hj (hl i li) (hl j lj),fun j hj l=>hH.μlim j hj (hl j l),hH.tok,hH.τinj,hH.μτ,hH.loop,hH.linj,hH.glob⟩
 simp only[List.length_set]at hj
 obtain⟨us,e,hb,h1,h2⟩:=hH.box j hj hh
 by_cases e1:k=j
 ·subst e1
  exact⟨us,e,hb,⟨by simp,h1.2⟩,fun i a b=>by simp at b⟩
 ·simp only[List.getElem_set_ne e1]
  exact⟨us,e,hb,h1,h2⟩
theorem bslice_core{n:Nat}{a:Act}{T:Env}{t e:TypeId}{es m:Nat}{parts:Array (Nat×Operand)}{xs:List Opd}(hT:TRep G w n a.tmps T)
 (ht:P.underlying t=some (.slice e))(he:sizeT P e=some es)(hxs:cOpds (parts.toList.map (·.2))=some xs)(hidx:parts.toList.map (·.1)=List.range m)(h0:0<es)(hbig:m*es≤16777216)
 (hz:((P.info? e).bind (·.zero)).any (fun z=>z.cells.size==es)=true)
 (hok:lenOk es (xs.map fun x=>shut2 (ev T x))=true)(hd:dataOk (xs.map fun x=>shut2 (ev T x))=true)(hm:0<m):
 ∃out:Array Value,(Instr.buildSlice t m (parts.map fun(i,x)=>(i,a.eval x))).run P w=.ok (.slice (some ⟨w.heap.size,0,none⟩) m m) (w.alloc (.cells out e))∧out.size=m*es∧(xs.map fun x=>shut2 (ev T x)).length=m∧
  ∀i(hi:i<(xs.map fun x=>shut2 (ev T x)).length)j(hj:j<((xs.map fun x=>shut2 (ev T x))[i]).cells.length),∃v,out[i*es+j]?=some v∧Rep G w v (((xs.map fun x=>shut2 (ev T x))[i]).cells[j]):=by
 obtain⟨hl,hr⟩:=cOpds_rep (a:=a) hT hxs
 generalize hvals:parts.toList.map (fun p=>a.eval p.2)=vals
 generalize hL:xs.map (fun x=>shut2 (ev T x))=L at*
 have hlv:vals.length=m:=by
  have:=congrArg List.length hidx
  rw[←hvals];simpa using this
 have hlL:L.length=m:=by
  rw[←hL,List.length_map,←hl,List.length_map]
  have:=congrArg List.length hidx
  simpa using this
 have hrv:∀i(h1:i<vals.length)(h2:i<L.length),Rep G w vals[i] L[i]:=by
  intro i h1 h2
  subst hL;subst hvals
  simp only[List.getElem_map]
  have:=hr i (by simpa using h1) (by simpa using h2)
  simp only[List.getElem_map]at this
  exact this.shut2
 have hparts:(parts.map fun(i,x)=>(i,a.eval x)).toList=vals.zipIdx.map fun p=>(p.2,p.1):=by
  subst hvals
  apply List.ext_getElem?
  intro i
  have:=congrArg (fun l=>l[i]?) hidx
  simp only[List.getElem?_map]at this
  simp only[Array.toList_map,List.getElem?_map,List.getElem?_zipIdx,Nat.zero_add]
  cases hp:parts.toList[i]? with
  |none=>simp
  |some p=>
   rw[hp]at this
   simp only[Option.map_some]at this⊢
   have hi:i<m:=by
    rcases Nat.lt_or_ge i m with h'|h'
    ·exact h'
    ·rw[List.getElem?_eq_none (by simpa using h')]at this;cases this
   rw[List.getElem?_range hi]at this
   simp only[Option.some.injEq]at this
   rw[this]
 have hsz:(sizeOf e).run P w=.ok es w:=run_sizeT he
 have hcs:∀v∈vals,v.cells.size=es:=by
  intro v hv
  obtain⟨i,hi,rfl⟩:=List.getElem_of_mem hv
  exact((hrv i hi (by omega)).cellsN (lenOk_get hok (by omega))).1
 cases hinfo:P.info? e with
 |none=>simp[hinfo]at hz
 |some inf=>
  cases hzero:inf.zero with
  |none=>simp[hinfo,hzero]at hz
  |some z=>
   simp only[hinfo,Option.bind_some,hzero,Option.any_some,beq_iff_eq]at hz
   obtain⟨out,h1,h2,_,h4⟩:=fill_rows es vals 0 ((Array.range (m*es)).map (z.cells[·%z.cells.size]!)) hcs (by simp[hlv])
   have hne:m*es≠0:=Nat.mul_ne_zero (by omega) (by omega)
   refine⟨out,?_,by rw[h2];simp,hlL,fun i hi j hj=> ?_⟩
   ·have hzv:(zeroValue e).run P w=.ok z w:=by simp[zeroValue,typeInfo,hinfo,hzero]
    simp only[Instr.buildSlice,Sem.run_bind,run_underlying ht,Result.andThen_ok,hsz,show¬(m*es>2^24)by omega,if_false,Sem.run_pure,hne,hzv,Sem.run_ite,newRow,hparts]
    simp only[h1]
    rfl
   ·have hi':i<vals.length:=by omega
    have hA:=(hrv i hi' hi).cellsN (lenOk_get hok hi)
    have hj':j<es:=by rw[←cells_of_N (lenOk_get hok hi)];exact hj
    have:=h4 i hi' j hj'
    rw[Nat.zero_add]at this
    have hcj:j<(vals[i]).cells.size:=by rw[hA.1];exact hj'
    refine⟨(vals[i]).cells[j],by rw[this,Array.getElem?_eq_getElem hcj],?_⟩
    have:=hA.2.2 j (by simpa using hcj) hj
    simpa using this
theorem run_bsliceM{n:Nat}{a:Act}{T:Env}{t e:TypeId}{es m:Nat}{parts:Array (Nat×Operand)}{xs:List Opd}{v:AV}{H':Heap}(hH:HRep P G w H)(hT:TRep G w n a.tmps T)
 (ht:P.underlying t=some (.slice e))(he:sizeT P e=some es)(hxs:cOpds (parts.toList.map (·.2))=some xs)(hidx:parts.toList.map (·.1)=List.range m)(h0:0<es)(hbig:m*es≤16777216)
 (hz:((P.info? e).bind (·.zero)).any (fun z=>z.cells.size==es)=true)(h:bsliceA es H (xs.map fun x=>shut2 (ev T x))=some (v,H')):
 ∃r w' G',(Instr.buildSlice t m (parts.map fun(i,x)=>(i,a.eval x))).run P w=.ok r w'∧Step G w G' w'∧HRep P G' w' H'∧Rep G' w' r v:=by
 have hlm:xs.length=m:=by
  obtain⟨hl,-⟩:=cOpds_rep (a:=a) hT hxs
  have:=congrArg List.length hidx
  simp only[List.length_map,List.length_range]at this hl
  omega
 generalize hL:xs.map (fun x=>shut2 (ev T x))=L at h
 cases L with
 |nil=>
  simp only[bsliceA,Option.some.injEq,Prod.mk.injEq]at h
  obtain⟨rfl,rfl⟩:=h
  obtain⟨r,w',G',h1,h2,h3⟩:=run_bslice (m:=m) hH hT ht he hxs hidx h0 hbig hz (by rw[hL];rfl) (by rw[hL];rfl)
  rw[hL]at h3
  exact⟨r,w',G',h1,h2.step hH.base,hH.grow h2,h3⟩
 |cons x L'=>
  simp only[bsliceA]at h
  split at h
  ·rename_i hc
   simp only[Option.some.injEq,Prod.mk.injEq]at h
   obtain⟨rfl,rfl⟩:=h
   have hm:0<m:=by
    have:=congrArg List.length hL
    simp only[List.length_map,List.length_cons]at this
    omega
   obtain⟨out,h1,h2,h3,h4⟩:=bslice_core (m:=m) hT ht he hxs hidx h0 hbig hz (by rw[hL];exact hc.1) (by rw[hL];exact hc.2) hm
   simp only[hL]at h3 h4
   have hlen:=rowCells_len hc.1
   obtain⟨s1,s2⟩:=box_new hH e (us:=out) (cs:=rowCells (x::L')) (by rw[hlen,h3,h2];exact Nat.le_refl _) (row_reads hc.1 h0 h4)
   refine⟨_,_,_,h1,s1,s2,?_⟩
   rw[h3]
   have:=Rep.msl (G:=G.box w.heap.size out.size) (w:=w.alloc (.cells out e)) G.nb 0 m m es ⟨by simp[Ghost.box],by simp[Ghost.box]⟩ (Nat.le_refl _) (by have:=Nat.le_mul_of_pos_right m h0;omega) h0 (by simp[Ghost.box,h2])
   simp only[Ghost.box,if_pos]at this
   rw[←hH.nb]
   exact this
  ·cases h
theorem src_of{u e2:TypeId}{es:Nat}{uy:Value}{k:SK}{m:List AV}(hu:P.underlying u=some (.slice e2))(hy:Rep G w uy (.sl k m))(hne:m≠[])(hok:lenOk es m=true)(hd:dataOk m=true):
 0<es∧∃news:List Value,Src P es u uy m.length news w∧∀i(hi:i<m.length)j(hj:j<(m[i]).cells.length),∃v,news[i*es+j]?=some v∧Rep G w v ((m[i]).cells[j]):=by
 obtain⟨am,cm,um,rfl,hsm,hcm,hcmm,he0,hlimm,hesm,hdatam,hcellm,hrepm,_,_⟩:=hy.cellsOf hne hok
 refine⟨he0,flatV um es m.length,?_,fun i hi j hj=>⟨um i j,flatV_get hi (by rw[←hesm i hi];exact hj),hrepm i hi j hj⟩⟩
 refine Src.ofSlice w hu am m.length cm _ (flatV_length _ _ _) (fun q v hq=> ?_) (fun v hv=> ?_)
 ·obtain⟨h1,h2,rfl,h3⟩:=flatV_at hq he0
  have:=hcellm _ h1 _ h2
  rwa [←h3]at this
 ·obtain⟨q,hq⟩:=List.mem_iff_getElem?.1 hv
  obtain⟨h1,h2,rfl,_⟩:=flatV_at hq he0
  have hj:q%es<(m[q/es]).cells.length:=by rw[hesm _ h1];exact h2
  exact(hrepm _ h1 _ hj).one (data0_cell (dataOk_get hd h1 hj))
theorem grow_box{t u e e2 ty:TypeId}{i:TypeInfo}{z:Value}{base:Option Addr}{n c:Nat}{olds:List Value}{cs:List AV}{uy:Value}{k:SK}{m:List AV}{H1:Heap}(hH:HRep P G w H1)(hy:Rep G w uy (.sl k m))(hne:m≠[])
 (ht:P.underlying t=some (.slice e))(hu:P.underlying u=some (.slice e2))(hi:P.info? e=some i)(hz:i.zero=some z)(hzs:z.cells.size=i.size)(h0b:0<i.bytes)
 (hold:(Builtin.firstCells i.size n (.slice base n c)).run P w.drew=.ok olds.toArray w.drew)(hcs:cs.length=n*i.size)(hol:olds.length=n*i.size)(hro:∀q(h1:q<olds.length)(h2:q<cs.length),Rep G w olds[q] cs[q])
 (hc:c<n+m.length)(hbytes:(n+m.length)*i.bytes≤140737488355328)(hok:lenOk i.size m=true)(hd:dataOk m=true):
 ∃r w' G',(Builtin.append_ #[t,u] ty #[.slice base n c,uy]).run P w=.ok r w'∧Step G w G' w'∧HRep P G' w' {H1 with boxes:=H1.boxes++[cs++rowCells m]}∧Rep G' w' r (.msl H1.boxes.length 0 (n+m.length) i.size):=by
 obtain⟨he0,news,hsrc,hnews⟩:=src_of hu hy hne hok hd
 have h63:n+m.length<2^63:=by
  have:(n+m.length)*1≤(n+m.length)*i.bytes:=Nat.mul_le_mul_left _ (by omega)
  omega
 have hrun:=run_append_grow_src (P:=P) w t u ty e i z ht hi hz base n c olds hold uy m.length news hsrc hc (by omega) (growslice_fits hc hbytes)
 generalize hcap:grownCap w (n+m.length) c e=cap at hrun
 have hcap1:n+m.length≤cap:=by rw[←hcap];exact grownCap_ge _ _ _ _
 have hcap2:cap≤9223372036854775807:=by rw[←hcap];exact grownCap_lt _ _ h63
 generalize hblk:((olds++news).toArray++Builtin.zeroCells z.cells (cap-(n+m.length)))=blk at hrun
 have hnl:=hsrc.newsLen
 have hblks:blk.size=cap*i.size:=by
  rw[←hblk]
  simp only[Array.size_append,List.size_toArray,List.length_append,hol,hnl,size_zeroCells,hzs]
  rw[←Nat.add_mul,←Nat.add_mul]
  congr 1;omega
 have hg:=Grow.drew hH.base
 have hHd:=hH.grow hg
 have hrl:=rowCells_len hok
 obtain⟨s1,s2⟩:=box_new hHd e (us:=blk) (cs:=cs++rowCells m) (by
  rw[List.length_append,hcs,hrl,←Nat.add_mul,hblks]
  exact Nat.mul_le_mul_right _ hcap1) (fun q h1 h2=>by
  have hst:=hg.step hH.base
  by_cases hq:q<cs.length
  ·rw[List.getElem_append_left hq]
   have hq':q<olds.length:=by omega
   have e:blk[q]=olds[q]:=by
    have:blk[q]?=some olds[q]:=by
     rw[←hblk,Array.getElem?_append_left (by simp;omega),List.getElem?_toArray,List.getElem?_append_left hq',List.getElem?_eq_getElem hq']
    obtain⟨_,e⟩:=Array.getElem?_eq_some_iff.1 this
    exact e
   rw[e]
   exact(hro q hq' hq).step hst
  ·rw[List.getElem_append_right (by omega)]
   have h3:q-cs.length<(rowCells m).length:=by simp only[List.length_append]at h2;omega
   have h4:q-cs.length<news.length:=by rw[hnl,←hrl];exact h3
   have e:blk[q]=news[q-cs.length]:=by
    have:blk[q]?=some news[q-cs.length]:=by
     rw[←hblk,Array.getElem?_append_left (by simp;omega),List.getElem?_toArray,List.getElem?_append_right (by omega),hol,←hcs,List.getElem?_eq_getElem h4]
    obtain⟨_,e⟩:=Array.getElem?_eq_some_iff.1 this
    exact e
   rw[e]
   have:=row_reads (vs:=news.toArray) hok he0 (fun a b c d=>by
    obtain⟨v,e1,e2⟩:=hnews a b c d
    exact⟨v,by rw[List.getElem?_toArray];exact e1,e2⟩) (q-cs.length) (by simpa using h4) h3
   simp only[List.getElem_toArray]at this
   exact this.step hst)
 refine⟨_,_,_,hrun,(hg.step hH.base).trans s1,s2,?_⟩
 have:=Rep.msl (G:=G.box w.drew.heap.size blk.size) (w:=w.drew.alloc (.cells blk e)) G.nb 0 (n+m.length) cap i.size ⟨by simp[Ghost.box],by simp[Ghost.box]⟩ hcap1 hcap2 he0 (by simp[Ghost.box,hblks])
 simp only[Ghost.box,if_pos]at this
 rw[←hH.nb]
 exact this
def Ghost.more(G:Ghost)(k:Nat):Ghost:={G with nb:=G.nb+1,μ:=fun j=>if j=G.nb then G.μ k else G.μ j,mc:=fun j=>if j=G.nb then G.mc k else G.mc j,hole:=fun j=>if j=G.nb then false else G.hole j}
theorem Ghost.more_on{G:Ghost}{k j:Nat}(h:(G.more k).on j)(e:j≠G.nb):G.on j:=by
 obtain⟨h1,h2⟩:=h
 simp only[Ghost.more,if_neg e]at h1 h2
 exact⟨by omega,h2⟩
theorem more_box {k : Nat} {cs cs' : List AV} {bus blk : Array Value} {e : TypeId} (hH : HRep P G w H) (hkn : G.on k) (hk : H.boxes[k]? = some cs) (hne : cs ≠ []) (hb : w.heap[G.μ k]? = some (.cells bus e (0, 0))) (hsz : blk.size = bus.size) (hle : cs'.length ≤ blk.size)
    (hr : ∀ q (h1 : q < blk.size) (h2 : q < cs'.length), Rep G w blk[q] cs'[q]) :
    Step G w (G.more k) (w.setRow (G.μ k) blk) ∧ HRep P (G.more k) (w.setRow (G.μ k) blk) { H with boxes := H.boxes.set k [] ++ [cs'] } := by
  obtain ⟨hlt, hcs⟩ := List.getElem?_eq_some_iff.1 hk
  have hlive : LiveB H k := by
    unfold LiveB
    rw [hk]
    intro e
    simp only [Option.some.injEq] at e
    exact hne e
  have hlim := hH.μlim k hkn hlive
  have hst : Step G w (G.more k) (w.setRow (G.μ k) blk) := by
    refine ⟨rfl, rfl, rfl, by simp, fun _ => Nat.le_refl _, fun b off ho => ?_, by simp [Ghost.more], fun j hj => by simp [Ghost.more]; omega, fun j hj => by have := hj.1; simp [Ghost.more]; omega, fun j hj => ?_, fun j hj => by have := hj.1; simp [Ghost.more]; omega, Nat.le_refl _, fun _ _ => Nat.le_refl _,
      fun _ _ _ => ⟨rfl, rfl⟩, fun _ _ => rfl, fun _ h => .inl ⟨h, rfl⟩, Nat.le_refl _, fun _ _ => rfl, fun _ h1 h2 => absurd h2 (by simp [Ghost.more]; omega), fun b _ h1 _ _ => ⟨?_, rfl⟩⟩
    · by_cases e : b = G.μ k
      · rw [e, hlim] at ho; omega
      · exact cell_setRow_other _ _ _ _ e
    · by_cases e : j = G.nb
      · simp only [Ghost.more]
        rw [if_pos e]; exact .inl ⟨k, hkn, rfl⟩
      · have h3 := Ghost.more_on hj e
        simp only [Ghost.more]
        rw [if_neg e]; exact .inl ⟨j, h3, rfl⟩
    · exact setRow_other _ _ _ _ (h1 k hkn)
  have hnew := setRow_heap w (G.μ k) bus blk e (0, 0) hb
  -- of the others those that are still there lie elsewhere
  have hoth : ∀ j, j < H.boxes.length → G.hole j = false → G.μ j = G.μ k → j ≠ k → H.boxes[j]? = some [] := fun j hj hh eμ ejk => by
    refine Classical.byContradiction fun hn => ejk (hH.μinj j k ⟨by rw [hH.nb]; exact hj, hh⟩ hkn hn hlive eμ)
  have hlv : ∀ j, j < H.boxes.length → LiveB { H with boxes := H.boxes.set k [] ++ [cs'] } j → LiveB H j ∧ j ≠ k := fun j hj h => by
    unfold LiveB at h ⊢
    simp only at h
    rw [List.getElem?_append_left (by simpa using hj)] at h
    by_cases e : k = j
    · subst e; rw [List.getElem?_set_self hj] at h; exact absurd rfl h
    · rw [List.getElem?_set_ne e] at h; exact ⟨h, fun e2 => e e2.symm⟩
  refine ⟨hst, ⟨fun b hb' => hH.base b (by simpa using hb'), by simp [Ghost.more, hH.nb], hH.nt, hH.nl, fun j hj hh => ?_, fun i j hi hj li lj he => ?_, fun j hj lj => ?_, fun t ht => ?_, hH.τinj, fun j t hj ht => ?_, fun l hl => ?_, hH.linj, hH.glob.step hst⟩⟩
  · simp only [List.length_append, List.length_set, List.length_cons, List.length_nil] at hj
    by_cases e1 : j = H.boxes.length
    · subst e1
      obtain ⟨bus', e', hb', ⟨-, hmc⟩, -⟩ := hH.box k hlt hkn.2
      rw [hb] at hb'
      simp only [Option.some.injEq, Obj.cells.injEq] at hb'
      obtain ⟨rfl, -⟩ := hb'
      have eg : (H.boxes.set k [] ++ [cs'])[H.boxes.length]'(by simp) = cs' := by
        rw [List.getElem_append_right (by simp)]; simp
      refine ⟨blk, e, by simp only [Ghost.more, hH.nb, if_pos]; exact hnew, ⟨by simp only [eg]; exact hle, by simp only [Ghost.more, hH.nb, if_pos]; rw [hsz]; exact hmc⟩, fun q h1 h2 => ?_⟩
      simp only [eg] at h2 ⊢
      exact (hr q h1 h2).step hst
    · have hj' : j < H.boxes.length := by omega
      have hh' : G.hole j = false := by
        simp only [Ghost.more, hH.nb, if_neg e1] at hh; exact hh
      obtain ⟨us', e', hb', h1, h2⟩ := hH.box j hj' hh'
      have eb : (H.boxes.set k [] ++ [cs'])[j]'(by simp; omega) = (H.boxes.set k [])[j]'(by simpa using hj') := List.getElem_append_left (by simpa using hj')
      simp only [eb]
      have emc : (G.more k).mc j = G.mc j := by simp only [Ghost.more, hH.nb, if_neg e1]
      have eμ : (G.more k).μ j = G.μ j := by simp only [Ghost.more, hH.nb, if_neg e1]
      rw [emc, eμ]
      by_cases e2 : G.μ j = G.μ k
      · have hdead : (H.boxes.set k [])[j]'(by simpa using hj') = [] := by
          by_cases e3 : k = j
          · subst e3; simp
          · rw [List.getElem_set_ne e3]
            have := hoth j hj' hh' e2 (fun e => e3 e.symm)
            rw [List.getElem?_eq_getElem hj'] at this
            simpa using this
        rw [e2, hb] at hb'
        simp only [Option.some.injEq, Obj.cells.injEq] at hb'
        obtain ⟨rfl, -⟩ := hb'
        exact ⟨blk, e, by rw [e2]; exact hnew, ⟨by rw [hdead]; simp, by rw [hsz]; exact h1.2⟩, fun q a b => by rw [hdead] at b; simp at b⟩
      · have e3 : k ≠ j := fun e => e2 (by rw [e])
        simp only [List.getElem_set_ne e3]
        refine ⟨us', e', ?_, h1, fun i a b => (h2 i a b).step hst⟩
        rw [setRow_other _ _ _ _ e2]; exact hb'
  · by_cases e1 : i = G.nb <;> by_cases e2 : j = G.nb
    · omega
    · have o2 := Ghost.more_on hj e2
      simp only [Ghost.more] at he
      rw [if_pos e1, if_neg e2] at he
      obtain ⟨l1, l2⟩ := hlv j (by rw [← hH.nb]; exact o2.1) lj
      exact absurd (hH.μinj j k o2 hkn l1 hlive he.symm) l2
    · have o1 := Ghost.more_on hi e1
      simp only [Ghost.more] at he
      rw [if_neg e1, if_pos e2] at he
      obtain ⟨l1, l2⟩ := hlv i (by rw [← hH.nb]; exact o1.1) li
      exact absurd (hH.μinj i k o1 hkn l1 hlive he) l2
    · have o1 := Ghost.more_on hi e1
      have o2 := Ghost.more_on hj e2
      simp only [Ghost.more] at he
      rw [if_neg e1, if_neg e2] at he
      exact hH.μinj i j o1 o2 (hlv i (by rw [← hH.nb]; exact o1.1) li).1 (hlv j (by rw [← hH.nb]; exact o2.1) lj).1 he
  · by_cases e1 : j = G.nb
    · simp only [Ghost.more]
      rw [if_pos e1]
      exact hlim
    · have o1 := Ghost.more_on hj e1
      simp only [Ghost.more]
      rw [if_neg e1]
      exact hH.μlim j o1 (hlv j (by rw [← hH.nb]; exact o1.1) lj).1
  · obtain ⟨h0, us', e', hb', r⟩ := hH.tok t ht
    exact ⟨h0, us', e', by show (w.setRow _ _).heap[G.τ t]? = _; rw [setRow_other _ _ _ _ (fun e => hH.μτ k t hkn (by rw [hH.nt]; exact ht) e.symm)]; exact hb', r⟩
  · show (if j = G.nb then G.μ k else G.μ j) ≠ G.τ t
    split
    · exact hH.μτ k t hkn ht
    · rename_i e1; exact hH.μτ j t (Ghost.more_on hj e1) ht
  · obtain ⟨rec, hb', hr'⟩ := hH.loop l hl
    exact ⟨rec, by show (w.setRow _ _).heap[G.ln l]? = _; rw [setRow_other _ _ _ _ (fun e => hH.μln hkn (by rw [hH.nl]; exact hl) e.symm)]; exact hb', hr'.step hst⟩
theorem run_appendMA{t u e e2 ty:TypeId}{i:TypeInfo}{z:Value}{x y z':AV}{H':Heap}{ux uy:Value}(hH:HRep P G w H)(hx:Rep G w ux x)(hy:Rep G w uy y)(h:appendMA i.size i.bytes H x y=some (z',H'))
 (ht:P.underlying t=some (.slice e))(hu:P.underlying u=some (.slice e2))(hi:P.info? e=some i)(hz:i.zero=some z)(hzs:z.cells.size=i.size)(h0:0<i.size)(h0b:0<i.bytes):
 ∃r w' G',(Builtin.append_ #[t,u] ty #[ux,uy]).run P w=.ok r w'∧Step G w G' w'∧HRep P G' w' H'∧Rep G' w' r z':=by
 have nothing:∀k'(hy:Rep G w uy (.sl k' []))z(hz:Rep G w ux z),(∃a n c,ux=.slice a n c∧n≤c)→∃r w' G',(Builtin.append_ #[t,u] ty #[ux,uy]).run P w=.ok r w'∧Step G w G' w'∧HRep P G' w' H∧Rep G' w' r z:=by
  rintro k' hy z hz⟨a,n,c,rfl,hnc⟩
  have hsrc:Src P i.size u uy 0 [] w:=by
   cases hy with
   |sl0 a c=>
    cases a with
    |none=>exact Src.ofNil w hu c
    |some a=>exact Src.ofSlice w hu a 0 c [] (by simp) (by simp) (by simp)
   |sl _ _ _ _ _ _ hl=>exact absurd rfl hl
  exact⟨_,w,G,run_append_nothing w t u ty e i ht hi a n c hnc _ hsrc,.refl _ _,hH,hz⟩
 unfold appendMA at h
 split at h
 ·rename_i k l k' m
  cases m with
  |nil=>
   simp only[Option.some.injEq,Prod.mk.injEq]at h
   obtain⟨rfl,rfl⟩:=h
   refine nothing k' hy _ ?_ ?_
   ·cases hx with
    |sl0 a c k hc ht=>
     cases k with
     |full=>exact .sl0 _ _ _ (fun _=>hc rfl) (fun t e=>by cases e)
     |sh=>exact .sl0 _ _ _ hc ht
     |nil=>exact .sl0 _ _ _ hc ht
     |own t=>exact absurd rfl (ht t)
    |sl a c k l es us hl hc hcm hs hes he0 hd hlim hcell hrep hfull hown=>
     obtain⟨y,l,rfl⟩:=List.exists_cons_of_ne_nil hl
     cases k<;>exact .sl a c _ _ es us hl hc hcm hs hes he0 hd hlim hcell hrep hfull hown
   cases hx with
   |sl0 a c=>exact⟨a,0,c,rfl,Nat.zero_le _⟩
   |sl a c _ _ _ _ _ hc=>exact⟨some a,_,c,rfl,hc⟩
  |cons m0 m'=>
   simp only at h
   split at h
   ·rename_i hc
    obtain⟨htg,rfl,hbytes,hok,hd⟩:=hc
    simp only[Option.some.injEq,Prod.mk.injEq]at h
    obtain⟨rfl,rfl⟩:=h
    cases hx with
    |sl0 a c _ hc _=>
     have hc0:=hc htg
     subst hc0
     have:=grow_box (ty:=ty) (n:=0) (c:=0) (base:=a) (olds:=[]) (cs:=[]) hH hy (by simp) ht hu hi hz hzs h0b (by
      cases a with
      |none=>simp[Builtin.firstCells]
      |some a=>simp[Builtin.firstCells,loadCells,loadCellsFrom]) (by simp) (by simp) (fun q h1=>absurd h1 (by simp)) (by simp) (by simpa using hbytes) hok hd
     simpa using this
    |sl _ _ _ _ _ _ hl=>exact absurd rfl hl
   ·cases h
 ·rename_i k off n es' k' m
  cases m with
  |nil=>
   simp only[Option.some.injEq,Prod.mk.injEq]at h
   obtain⟨rfl,rfl⟩:=h
   refine nothing k' hy _ hx ?_
   cases hx with
   |msl _ _ _ c _ _ hc=>exact⟨_,_,c,rfl,hc⟩
  |cons m0 m'=>
   simp only at h
   split at h
   ·rename_i cs hcs
    split at h
    ·rename_i hc
     obtain⟨rfl,rfl,hn0,hcl,hdc,hbytes,hok,hd⟩:=hc
     simp only[Option.some.injEq,Prod.mk.injEq]at h
     obtain⟨rfl,rfl⟩:=h
     obtain⟨hlt,hcs'⟩:=List.getElem?_eq_some_iff.1 hcs
     cases hx with
     |msl _ _ _ c _ hk hnc hcm he0 hcap=>
     obtain⟨bus,be,hb,⟨hle,hmc⟩,hrep⟩:=hH.box k hlt hk.2
     rw[hcs']at hle hrep
     rw[Nat.zero_add,←hmc]at hcap
     have hne:cs≠[]:=by
      intro e
      rw[e]at hcl
      simp only[List.length_nil]at hcl
      have:=Nat.mul_pos hn0 he0
      omega
     by_cases hroom:n+(m0::m').length≤c
     ·obtain⟨-,news,hsrc,hnews⟩:=src_of hu hy (by simp) hok hd
      have hnl:=hsrc.newsLen
      have hrl:=rowCells_len hok
      have hfits:n*i.size+news.length≤bus.size:=by
       rw[hnl,←Nat.add_mul]
       exact Nat.le_trans (Nat.mul_le_mul_right _ hroom) hcap
      have hstc:=run_storeCells_at P (G.μ k) (n*i.size) be news 0 bus w hb (by simpa using hfits) hsrc.one
      simp only[Nat.add_zero]at hstc
      generalize hblk:(bus.toList.take (n*i.size)++news++bus.toList.drop (n*i.size+news.length)).toArray=blk at hstc
      have hrun:(Builtin.append_ #[t,u] ty #[.slice (some ⟨G.μ k,0,none⟩) n c,uy]).run P w=.ok (.slice (some ⟨G.μ k,0,none⟩) (n+(m0::m').length) c) (w.setRow (G.μ k) blk):=by
       have hf:=hsrc.cells
       have hln:=hsrc.len w
       clear hsrc hnews hrl hfits hnl
       generalize(m0::m').length=ml at hln hf hroom⊢
       simp[Builtin.append_,run_underlying ht,run_underlying hu,sizeOf,typeInfo,hi,hln,hroom,hf,Addr.add_lit,hstc]
      have hblks:blk.size=bus.size:=by
       rw[←hblk]
       simp only[List.size_toArray,List.length_append,List.length_take,List.length_drop,Array.length_toList]
       omega
      obtain⟨s1,s2⟩:=more_box (cs':=cs++rowCells (m0::m')) hH hk hcs hne hb hblks (by
       rw[List.length_append,hcl,hrl,hblks,←hnl];exact hfits) (fun q h1 h2=>by
       by_cases hq:q<cs.length
       ·rw[List.getElem_append_left hq]
        have hq':q<bus.size:=by omega
        have e:blk[q]=bus[q]:=by
         have:blk[q]?=some bus[q]:=by
          rw[←hblk,List.getElem?_toArray,List.append_assoc,List.getElem?_append_left (by simp;omega)]
          simp[List.getElem?_take,show q<n*i.size by omega,hq']
         obtain⟨_,e⟩:=Array.getElem?_eq_some_iff.1 this
         exact e
        rw[e]
        exact hrep q hq' hq
       ·rw[List.getElem_append_right (by omega)]
        have h3:q-cs.length<(rowCells (m0::m')).length:=by simp only[List.length_append]at h2;omega
        have h4:q-cs.length<news.length:=by rw[hnl,←hrl];exact h3
        have etl:(bus.toList.take (n*i.size)).length=n*i.size:=by simp;omega
        have e:blk[q]=news[q-cs.length]:=by
         have:blk[q]?=some news[q-cs.length]:=by
          rw[←hblk,List.getElem?_toArray,List.append_assoc,List.getElem?_append_right (by omega),etl,←hcl,List.getElem?_append_left h4,List.getElem?_eq_getElem h4]
         obtain⟨_,e⟩:=Array.getElem?_eq_some_iff.1 this
         exact e
        rw[e]
        have:=row_reads (vs:=news.toArray) hok he0 (fun a b c d=>by
         obtain⟨v,e1,e2⟩:=hnews a b c d
         exact⟨v,by rw[List.getElem?_toArray];exact e1,e2⟩) (q-cs.length) (by simpa using h4) h3
        simpa only[List.getElem_toArray]using this)
      refine⟨_,_,_,hrun,s1,s2,?_⟩
      have:=Rep.msl (G:=G.more k) (w:=w.setRow (G.μ k) blk) G.nb 0 (n+(m0::m').length) c i.size ⟨by simp[Ghost.more],by simp[Ghost.more]⟩ hroom hcm he0 (by simp only[Ghost.more,if_pos];rw[←hmc,Nat.zero_add];exact hcap)
      simp only[Ghost.more,if_pos]at this
      rw[←hH.nb]
      exact this
     ·have hkill:=hH.kill k
      have hbl:bus.toList.length=bus.size:=by simp
      have:=grow_box (ty:=ty) (n:=n) (c:=c) (base:=some ⟨G.μ k,0,none⟩) (olds:=bus.toList.take (n*i.size)) (cs:=cs) hkill hy (by simp) ht hu hi hz hzs h0b (run_firstCells_some (P:=P) w.drew i.size n _ n c _ (by simp;omega) (fun q v hq=>by
       rw[add_off rfl]
       simp only[List.getElem?_take]at hq
       split at hq
       ·show w.cell? _=_
        simp only[World.cell?,hb,Option.isSome_none,Bool.false_eq_true,if_false,Nat.zero_add]
        rw[←Array.getElem?_toList]
        exact hq
       ·cases hq)) (by omega) (by simp;omega) (fun q h1 h2=>by
       have hq':q<bus.size:=by simp at h1;omega
       have:=hrep q hq' h2
       simpa using this) (by omega) hbytes hok hd
      simpa using this
    ·cases h
   ·cases h
 ·cases h
theorem write_box{k off:Nat}{cs xs:List AV}{vs:List Value}(hH:HRep P G w H)(hk:G.on k)(hcs:H.boxes[k]?=some cs)(hne:cs≠[])(hle:off+xs.length≤cs.length)(hvr:ARep G w vs xs)(hcell:xs.all cellOk=true):
 ∃w',(storeCells ⟨G.μ k,off,none⟩ vs).run P w=.ok () w'∧Step G w G w'∧HRep P G w' {H with boxes:=H.boxes.set k (paste cs off xs)}:=by
 obtain⟨hlt,hcs'⟩:=List.getElem?_eq_some_iff.1 hcs
 have hlive:LiveB H k:=by
  unfold LiveB
  rw[hcs]
  intro e
  simp only[Option.some.injEq]at e
  exact hne e
 obtain⟨us,e,hb,⟨hsz,hmc⟩,hrep⟩:=hH.box k hlt hk.2
 rw[hcs']at hsz hrep
 have hone:∀c∈vs,c.oneCell'=true:=by
  intro c hc
  obtain⟨i,hi,rfl⟩:=List.getElem_of_mem hc
  have hi2:i<xs.length:=by rw[←hvr.1];exact hi
  exact(hvr.2 i hi hi2).one (List.all_eq_true.1 hcell _ (List.getElem_mem hi2))
 have hvl:=hvr.1
 have hrun:=run_storeCells_at P (G.μ k) off e vs 0 us w hb (by omega) hone
 simp only[Nat.add_zero]at hrun
 have hst:=Step.setRow hH hk hlive (us.toList.take off++vs++us.toList.drop (off+vs.length)).toArray
 refine⟨_,hrun,hst,?_⟩
 rw[←pasteV_spec _ _ _ (by simp;omega)]at hst⊢
 have hnew:=setRow_heap w (G.μ k) us (pasteV us.toList off vs).toArray e (0,0) hb
 have hlv:∀j,LiveB {H with boxes:=H.boxes.set k (paste cs off xs)} j→LiveB H j:=fun j hj=>by
  by_cases e:k=j
  ·rw[←e];exact hlive
  ·unfold LiveB at hj⊢
   simp only[List.getElem?_set_ne e]at hj
   exact hj
 refine⟨fun b hb'=>hH.base b (by simpa using hb'),by rw[hH.nb];simp,hH.nt,hH.nl,fun j hj hh=> ?_,fun i j hi hj l1 l2=>hH.μinj i j hi hj (hlv i l1) (hlv j l2),fun j hj l=>hH.μlim j hj (hlv j l),fun t ht=> ?_,hH.τinj,hH.μτ,fun l hl=> ?_,hH.linj,hH.glob.step hst⟩
 ·simp only[List.length_set]at hj
  by_cases ejk:k=j
  ·subst ejk
   have hA:ARep G w us.toList (cs++List.replicate (us.size-cs.length) .undef):=by
    refine⟨by simp;omega,fun i h1 h2=> ?_⟩
    rw[Array.getElem_toList,List.getElem_append]
    split
    ·exact hrep i (by simpa using h1) (by assumption)
    ·rw[List.getElem_replicate];exact .undef _
   have hB:=hA.paste hvr (off:=off)
   refine⟨_,e,hnew,?_,fun i h1 h2=> ?_⟩
   ·have hBl:=hB.1
    rw[paste_length]at hBl
    simp only[List.getElem_set_self,paste_length,List.size_toArray]
    refine⟨by rw[hBl,List.length_append];exact Nat.le_add_right _ _,?_⟩
    rw[←hmc,hBl,List.length_append,List.length_replicate]
    omega
   ·simp only[List.getElem_set_self]at h2⊢
    rw[paste_length]at h2
    have hpre:∀(xs a b:List AV)(o:Nat),o+xs.length≤a.length→∀i(hi:i<a.length),(paste (a++b) o xs)[i]'(by rw[paste_length];simp;omega)=(paste a o xs)[i]'(by rw[paste_length];exact hi):=by
     intro xs
     induction xs with
     |nil=>intro a b o _ i hi;simp[paste,List.getElem_append_left hi]
     |cons x xs ih=>
      intro a b o ho i hi
      simp only[List.length_cons]at ho
      simp only[paste]
      have e1:(a++b).set o x=a.set o x++b:=List.set_append_left _ _ (by omega)
      simp only[e1]
      exact ih (a.set o x) b (o+1) (by simp;omega) i (by simpa using hi)
    have:=hB.2 i (by simpa using h1) (by rw[paste_length];simp;omega)
    rw[hpre xs cs _ off hle i h2]at this
    simpa using this.step hst
  ·obtain⟨us',e',hb',h1,h2⟩:=hH.box j hj hh
   simp only[List.getElem_set_ne ejk]
   by_cases eμ:G.μ j=G.μ k
   ·have hdead:H.boxes[j]=[]:=by
     refine Classical.byContradiction fun hne=>ejk (hH.μinj k j hk ⟨by rw[hH.nb];exact hj,hh⟩ hlive ?_ eμ.symm)
     unfold LiveB
     rw[List.getElem?_eq_getElem hj]
     intro e
     exact hne (by simpa using e)
    rw[eμ,hb]at hb'
    simp only[Option.some.injEq,Obj.cells.injEq]at hb'
    obtain⟨rfl,-⟩:=hb'
    refine⟨_,e,by rw[eμ];exact hnew,⟨by rw[hdead];simp,?_⟩,fun i j1 j2=>by rw[hdead]at j2;simp at j2⟩
    rw[←h1.2,List.size_toArray,pasteV_spec _ _ _ (by simp;omega)]
    simp only[List.length_append,List.length_take,List.length_drop,Array.length_toList]
    omega
   ·refine⟨us',e',?_,h1,fun i j1 j2=>(h2 i j1 j2).step hst⟩
    rw[setRow_other _ _ _ _ eμ]
    exact hb'
 ·obtain⟨h0,us',e',hb',r⟩:=hH.tok t ht
  exact⟨h0,us',e',by rw[setRow_other _ _ _ _ (fun e=>hH.μτ k t hk (by rw[hH.nt];exact ht) e.symm)];exact hb',r⟩
 ·obtain⟨rec,hb',hr⟩:=hH.loop l hl
  exact⟨rec,by rw[setRow_other _ _ _ _ (fun e=>hH.μln hk (by rw[hH.nl];exact hl) e.symm)];exact hb',hr.step hst⟩
theorem flat_rep{zero:List AV}:∀n,((List.replicate n zero).flatten).length=n*zero.length
 |0=>by simp
 |n+1=>by rw[List.replicate_succ,List.flatten_cons,List.length_append,flat_rep n,Nat.add_mul];omega
theorem flat_get{zero:List AV}(h0:0<zero.length):∀(n q:Nat),q<n*zero.length→((List.replicate n zero).flatten)[q]?=zero[q%zero.length]?
 |0,q,h=>by omega
 |n+1,q,h=>by
  rw[List.replicate_succ,List.flatten_cons]
  by_cases hq:q<zero.length
  ·rw[List.getElem?_append_left hq,Nat.mod_eq_of_lt hq]
  ·rw[List.getElem?_append_right (by omega),flat_get h0 n (q-zero.length) (by rw[Nat.add_mul]at h;omega)]
   rw[show q%zero.length=(q-zero.length)%zero.length from Nat.mod_eq_sub_mod (by omega)]
theorem zero_rep{zero:List AV}{z:Value}(h0:0<zero.length)(hz:ofVs z.cells.toList=some zero)(n:Nat):ARep G w (Builtin.zeroCells z.cells n).toList (List.replicate n zero).flatten:=by
 obtain⟨hl,hr⟩:=ofVs_rep (G:=G) (w:=w) hz
 have hzl:z.cells.size=zero.length:=by simpa using hl
 have hlen:=flat_rep (zero:=zero) n
 refine⟨by rw[hlen,Array.length_toList,size_zeroCells,hzl],fun q h1 h2=> ?_⟩
 rw[hlen]at h2
 have hm:q%zero.length<zero.length:=Nat.mod_lt _ h0
 have e1:(Builtin.zeroCells z.cells n).toList[q]=z.cells.toList[q%zero.length]'(by rw[hl];exact hm):=by
  simp only[Builtin.zeroCells,Array.getElem_toList,Array.getElem_map,Array.getElem_range,hzl]
  rw[getElem!_pos _ _ (by rw[hzl];exact hm)]
 have e2:=flat_get h0 n q h2
 rw[List.getElem?_eq_getElem hm]at e2
 obtain⟨_,e2⟩:=List.getElem?_eq_some_iff.1 e2
 rw[e1,e2]
 exact hr _ _ hm
theorem run_clearA{t e ty:TypeId}{zero:List AV}{x:AV}{H':Heap}{ux:Value}(hH:HRep P G w H)(hx:Rep G w ux x)(h:clearA zero H x=some H')(ht:P.underlying t=some (.slice e))(hz:zeroCells P e=some zero):
 ∃w',(Builtin.clear_ #[t] ty #[ux]).run P w=.ok (.tuple #[]) w'∧Step G w G w'∧HRep P G w' H':=by
 unfold clearA at h
 split at h
 ·rename_i k
  simp only[Option.some.injEq]at h
  subst h
  refine⟨w,?_,.refl _ _,hH⟩
  cases hx with
  |sl0 a c=>cases a<;>simp[Builtin.clear_,run_underlying ht]
  |sl _ _ _ _ _ _ hl=>exact absurd rfl hl
 ·rename_i k off n es
  split at h
  ·rename_i cs hcs
   split at h
   ·rename_i hc
    obtain⟨hle,hzl,hn0,he0,hzd⟩:=hc
    simp only[Option.some.injEq]at h
    subst h
    cases hx with
    |msl _ _ _ c _ hk hnc hcm _ hcap=>
    unfold zeroCells at hz
    split at hz
    ·rename_i i hi
     split at hz
     ·rename_i z hzz
      have hA:=zero_rep (G:=G) (w:=w) (by omega:0<zero.length) hz n
      have hfl:=flat_rep (zero:=zero) n
      have hne:cs≠[]:=by
       intro e
       rw[e]at hle
       simp only[List.length_nil]at hle
       have:=Nat.mul_pos hn0 he0
       omega
      obtain⟨w',h1,h2,h3⟩:=write_box hH hk hcs hne (by rw[hfl,hzl];exact hle) hA (by
       rw[List.all_eq_true]
       intro y hy
       obtain⟨l,hl,hy⟩:=List.mem_flatten.1 hy
       rw[List.mem_replicate]at hl
       rw[hl.2]at hy
       exact data0_cell (List.all_eq_true.1 hzd y hy))
      refine⟨w',?_,h2,h3⟩
      obtain⟨m,rfl⟩:∃m,n=m+1:=⟨n-1,by omega⟩
      have hzv:(zeroValue e).run P w=.ok z w:=by simp[zeroValue,typeInfo,hi,hzz]
      simp[Builtin.clear_,run_underlying ht,hzv,h1]
     ·cases hz
    ·cases hz
   ·cases h
  ·cases h
 ·cases h
theorem wrap_i64'{x:Int}(h1: -9223372036854775808≤x)(h2:x<9223372036854775808):IntKind.i64.wrap x=x:=by
 have e:(x%18446744073709551616)=if 0≤x then x else x+18446744073709551616:=by split<;>omega
 simp only[IntKind.wrap,IntKind.bits,IntKind.signed,Bool.true_and,show(2:Int)^64=18446744073709551616 from rfl,show(2:Int)^(64-1)=9223372036854775808 from rfl,e,decide_eq_true_eq]
 split<;>split<;>omega
theorem run_makeA{t e:TypeId}{i:TypeInfo}{zv:Value}{zero:List AV}{x v:AV}{H':Heap}{ux:Value}(hH:HRep P G w H)(hx:Rep G w ux x)(h:makeA i.size i.bytes zero H x=some (v,H'))(ht:P.underlying t=some (.slice e))
 (hi:P.info? e=some i)(hzi:i.zero=some zv)(hzs:zv.cells.size=i.size)(hz:zeroCells P e=some zero)(h0b:0<i.bytes):
 ∃r w' G',(Instr.makeSlice t ux ux).run P w=.ok r w'∧Step G w G' w'∧HRep P G' w' H'∧Rep G' w' r v:=by
 unfold makeA at h
 split at h
 ·rename_i n
  split at h
  ·rename_i hc
   obtain⟨hn0,hbytes,hzl,he0,hzd⟩:=hc
   cases hx
   obtain⟨m,rfl⟩:∃m:Nat,n=m:=⟨n.toNat,by omega⟩
   have hmn:(m:Int).toNat=m:=by simp
   rw[hmn]at hbytes
   have hm63:m≤140737488355328:=by
    have:m*1≤m*i.bytes:=Nat.mul_le_mul_left _ h0b
    omega
   have hw:IntKind.i64.wrap (m:Int)=m:=wrap_i64' (by omega) (by omega)
   have hz':ofVs zv.cells.toList=some zero:=by
    simp only[zeroCells,hi,hzi]at hz;exact hz
   have hb:¬((i.bytes:Int)*(m:Int)>2^48):=by
    have e:((i.bytes:Int)*(m:Int))=((m*i.bytes:Nat):Int):=by rw[Int.natCast_mul,Int.mul_comm]
    rw[e]
    have:(2:Int)^48=281474976710656:=rfl
    omega
   have hrun:(Instr.makeSlice t (.int .i64 (m:Int)) (.int .i64 (m:Int))).run P w=.ok (.slice (some ⟨w.heap.size,0,none⟩) m m) (w.alloc (.cells ((Array.range (m*i.size)).map (fun q=>(if m*i.size=0 then #[]else zv.cells)[q%(if m*i.size=0 then #[]else zv.cells).size]!)) e)):=by
    have hm0:¬((m:Int)<0):=by omega
    have hzv:(zeroValue e).run P w=.ok zv w:=by simp[zeroValue,typeInfo,hi,hzi]
    have h48:¬((281474976710656:Int)<(i.bytes:Int)*(m:Int)):=by
     have:(2:Int)^48=281474976710656:=rfl
     omega
    by_cases hz0:m*i.size=0
    ·simp[Instr.makeSlice,run_underlying ht,asInt,asIntOf,typeInfo,hi,hw,hm0,h48,sizeOf,hz0,newRow]
    ·simp[Instr.makeSlice,run_underlying ht,asInt,asIntOf,typeInfo,hi,hw,hm0,h48,sizeOf,hz0,newRow,hzv]
   split at h
   ·rename_i hm0
    have hm0:m=0:=by omega
    subst hm0
    simp only[Option.some.injEq,Prod.mk.injEq]at h
    obtain⟨rfl,rfl⟩:=h
    have hg:=Grow.alloc hH.base (.cells ((Array.range (0*i.size)).map (fun q=>(if 0*i.size=0 then #[]else zv.cells)[q%(if 0*i.size=0 then #[]else zv.cells).size]!)) e) 0
    exact⟨_,_,_,hrun,hg.step hH.base,hH.grow hg,.sl0 _ _ _ (fun e=>by cases e) (fun t e=>by cases e)⟩
   ·rename_i hm0
    have hm0:0<m:=by omega
    simp only[Option.some.injEq,Prod.mk.injEq]at h
    obtain⟨rfl,rfl⟩:=h
    rw[hmn]
    have hne:¬m*i.size=0:=by have:=Nat.mul_pos hm0 he0;omega
    have hA:=zero_rep (G:=G) (w:=w) (by omega:0<zero.length) hz' m
    have hcells:(Array.range (m*i.size)).map (fun q=>(if m*i.size=0 then #[]else zv.cells)[q%(if m*i.size=0 then #[]else zv.cells).size]!)=Builtin.zeroCells zv.cells m:=by
     simp only[if_neg hne,Builtin.zeroCells,hzs]
    rw[hcells]at hrun
    have hsz:(Builtin.zeroCells zv.cells m).size=m*i.size:=by rw[size_zeroCells,hzs]
    obtain⟨a1,a2⟩:=hA.to
    obtain⟨s1,s2⟩:=box_new hH e (us:=Builtin.zeroCells zv.cells m) (cs:=(List.replicate m zero).flatten) (by rw[a1];exact Nat.le_refl _) a2
    refine⟨_,_,_,hrun,s1,s2,?_⟩
    have:=Rep.msl (G:=G.box w.heap.size (Builtin.zeroCells zv.cells m).size) (w:=w.alloc (.cells (Builtin.zeroCells zv.cells m) e)) G.nb 0 m m i.size ⟨by simp[Ghost.box],by simp[Ghost.box]⟩ (Nat.le_refl _) (by omega) he0 (by simp[Ghost.box,hsz])
    simp only[Ghost.box,if_pos]at this
    rw[←hH.nb]
    exact this
  ·cases h
 ·cases h
end Go.Aa
set_option linter.unusedVariables false
set_option linter.unusedSimpArgs false
namespace Go.Aa
open Go.RowKit
variable{P:Program}{G G':Ghost}{w w':World}
def Valued(nx:Next)(r:Value):Prop:=nx=.value r∨(nx=.skip∧r=Go.undef)
def OpOk(P:Program)(G:Ghost)(w:World)(H':Heap)(v:AV)(s:Sem Next):Prop:=
 ∃nx r w' G',s.run P w=.ok nx w'∧Valued nx r∧Step G w G' w'∧HRep P G' w' H'∧Rep G' w' r v
theorem OpOk.pure{H:Heap}{v:AV}{s:Sem Value}(hH:HRep P G w H)(h:∃r,s.run P w=.ok r w∧Rep G w r v):OpOk P G w H v (do pure (Next.value (←s))):=by
 obtain⟨r,h1,h2⟩:=h
 exact⟨.value r,r,w,G,by simp[h1],.inl rfl,.refl _ _,hH,h2⟩
theorem OpOk.pureV{H:Heap}{v:AV}{r:Value}(hH:HRep P G w H)(h:Rep G w r v):OpOk P G w H v (Pure.pure (Next.value r)):=⟨.value r,r,w,G,rfl,.inl rfl,.refl _ _,hH,h⟩
theorem OpOk.grow{H:Heap}{v:AV}{s:Sem Value}(hH:HRep P G w H)(h:∃r w' G',s.run P w=.ok r w'∧Grow G w G' w'∧Rep G' w' r v):OpOk P G w H v (do Pure.pure (Next.value (←s))):=by
 obtain⟨r,w',G',h1,h2,h3⟩:=h
 exact⟨.value r,r,w',G',by simp[h1],.inl rfl,h2.step hH.base,hH.grow h2,h3⟩
theorem OpOk.step{H':Heap}{v:AV}{s:Sem Value}(h:∃r w' G',s.run P w=.ok r w'∧Step G w G' w'∧HRep P G' w' H'∧Rep G' w' r v):OpOk P G w H' v (do Pure.pure (Next.value (←s))):=by
 obtain⟨r,w',G',h1,h2,h3,h4⟩:=h
 exact⟨.value r,r,w',G',by simp[h1],.inl rfl,h2,h3,h4⟩
theorem run_binA{op:BinOp}{x y z:AV}{u v:Value}{t:TypeId}{ox oy:Operand}(hb:Base G w)(hx:Rep G w u x)(hy:Rep G w v y)(h:binA op x y=some z)(ht:binOk P t=true):
 ∃r w' G',(do eqGuard op t ox oy u v;binOp op t u v:Sem Value).run P w=.ok r w'∧Grow G w G' w'∧Rep G' w' r z:=by
 have flt:∀(a b:Nat)(p q:Option Nat),FRep a p→FRep b q→fltBin op p q=some z→u=.float .f64 a→v=.float .f64 b→
  ∃r w' G',(do eqGuard op t ox oy u v;binOp op t u v:Sem Value).run P w=.ok r w'∧Grow G w G' w'∧Rep G' w' r z:=by
  rintro a b p q hp hq hf rfl rfl
  obtain⟨r,w',h1,h2,h3⟩:=run_fltBin (P:=P) (t:=t) hb hp hq hf
  exact⟨r,w',G,by simp only[Sem.run_bind,eqGuard_flt,Result.andThen_ok];exact h1,h2,h3⟩
 unfold binA at h
 split at h
 ·rename_i k a k' b
  cases hx;cases hy
  have key:∀r,(binOp op t (.int k a) (.int k' b)).run P w=.ok r w→Rep G w r z→∃r w' G',(do eqGuard op t ox oy (.int k a) (.int k' b);binOp op t (.int k a) (.int k' b):Sem Value).run P w=.ok r w'∧Grow G w G' w'∧Rep G' w' r z:=
   fun r h1 h2=>⟨r,w,G,by simp only[Sem.run_bind,eqGuard_int,Result.andThen_ok];exact h1,.refl hb,h2⟩
  split at h
  ·obtain⟨r,h1,h2⟩:=run_intShift (P:=P) (G:=G) (w:=w) (t:=t) (k':=k') h
   exact key r h1 h2
  ·obtain⟨r,h1,h2⟩:=run_intShift (P:=P) (G:=G) (w:=w) (t:=t) (k':=k') h
   exact key r h1 h2
  ·split at h
   ·rename_i hk
    subst hk
    obtain⟨r,h1,h2⟩:=run_intBin (P:=P) (G:=G) (w:=w) (t:=t) h
    exact key r h1 h2
   ·cases h
 ·cases hx;cases hy;exact flt _ _ _ _ (.bits _) (.bits _) h rfl rfl
 ·cases hx;cases hy;exact flt _ _ _ _ (.nan _ (by assumption)) (.bits _) h rfl rfl
 ·cases hx;cases hy;exact flt _ _ _ _ (.bits _) (.nan _ (by assumption)) h rfl rfl
 ·cases hx;cases hy;exact flt _ _ _ _ (.nan _ (by assumption)) (.nan _ (by assumption)) h rfl rfl
 ·cases hx;cases hy
  obtain⟨r,h1,h2⟩:=run_strBin (P:=P) (G:=G) (w:=w) (t:=t) h
  exact⟨r,w,G,by simp only[Sem.run_bind,eqGuard_str,Result.andThen_ok];exact h1,.refl hb,h2⟩
 ·cases h
theorem run_eqb{neg:Bool}{x y z:AV}{u v:Value}{t:TypeId}{ox oy:Operand}(hx:Rep G w u x)(hy:Rep G w v y)(h:eqbA neg x y=some z)(ht:P.underlying t=some .bool):
 ∃r,(do eqGuard (if neg then .neq else .eql) t ox oy u v;binOp (if neg then .neq else .eql) t u v:Sem Value).run P w=.ok r w∧Rep G w r z:=by
 unfold eqbA at h
 split at h
 ·simp only[Option.some.injEq]at h
  subst h
  cases hx;cases hy
  cases neg
  ·exact⟨_,by simp only[Sem.run_bind,eqGuard_bool,Result.andThen_ok,Bool.false_eq_true,if_false];exact run_eql_bool w t _ _ ht,.bool _⟩
  ·exact⟨_,by simp only[Sem.run_bind,eqGuard_bool,Result.andThen_ok,if_true];exact run_neq_bool w t _ _ ht,.bool _⟩
 ·cases h
theorem eqnil_run{neg:Bool}{u v:Value}{t:TypeId}{ox oy:Operand}{b:Bool}(hg:∀op,(eqGuard op t ox oy u v).run P w=.ok () w)(he:(Op.equal t u v).run P w=.ok b w)
 (h1:binOp .eql t u v=(do pure (.bool (←Op.equal t u v))))(h2:binOp .neq t u v=(do pure (.bool (!(←Op.equal t u v))))):
 (do eqGuard (if neg then .neq else .eql) t ox oy u v;binOp (if neg then .neq else .eql) t u v:Sem Value).run P w=.ok (.bool (if neg then !b else b)) w:=by
 cases neg
 ·simp only[Sem.run_bind,hg,Result.andThen_ok,Bool.false_eq_true,if_false,h1,he,Sem.run_pure]
 ·simp only[Sem.run_bind,hg,Result.andThen_ok,if_true,h2,he,Sem.run_pure]
theorem run_eqnil{neg:Bool}{k:NK}{x z:AV}{u:Value}{t:TypeId}{ox oy:Operand}{v:Value}(hx:Rep G w u x)(h:eqnilA neg k x=some z)(ht:nilOf P t oy=some k)(hv:∀c,oy=.const c→v=c):
 ∃r,(do eqGuard (if neg then .neq else .eql) t ox oy u v;binOp (if neg then .neq else .eql) t u v:Sem Value).run P w=.ok r w∧Rep G w r z:=by
 have fin:∀b:Bool,(∀op,(eqGuard op t ox oy u v).run P w=.ok () w)→(∀d,(Op.equalIn (d+1) t u v).run P w=.ok b w)→binOp .eql t u v=(do pure (.bool (←Op.equal t u v)))→binOp .neq t u v=(do pure (.bool (!(←Op.equal t u v))))→
  AV.bool (if neg then !b else b)=z→∃r,(do eqGuard (if neg then .neq else .eql) t ox oy u v;binOp (if neg then .neq else .eql) t u v:Sem Value).run P w=.ok r w∧Rep G w r z:=by
  intro b h1 h2 h3 h4 h5
  exact⟨_,eqnil_run h1 (h2 9999) h3 h4,by rw[←h5];exact .bool _⟩
 unfold nilOf at ht
 split at ht<;>simp only[Option.some.injEq,reduceCtorEq]at ht<;>subst ht
 ·rename_i e n c hu
  have:=hv _ rfl
  subst this
  cases hx with
  |sl a c' k l es us hl=>
   cases l with
   |nil=>exact absurd rfl hl
   |cons x xs=>
    simp only[eqnilA,Option.some.injEq]at h
    exact fin false (fun op=>by cases op<;>rfl) (fun d=>by simp[Op.equalIn,run_underlying hu]) rfl rfl (by rw[←h];cases neg<;>rfl)
  |msl k off n c'=>
   simp only[eqnilA,Option.some.injEq]at h
   exact fin false (fun op=>by cases op<;>rfl) (fun d=>by simp[Op.equalIn,run_underlying hu]) rfl rfl (by rw[←h];cases neg<;>rfl)
  |_=>simp[eqnilA]at h
 ·rename_i e hu
  have:=hv _ rfl
  subst this
  cases hx with
  |ptr k off=>
   simp only[eqnilA,Option.some.injEq]at h
   exact fin false (fun op=>by cases op<;>rfl) (fun d=>by simp[Op.equalIn,run_underlying hu]) rfl rfl (by rw[←h];cases neg<;>rfl)
  |ref a cs=>
   simp only[eqnilA,Option.some.injEq]at h
   exact fin false (fun op=>by cases op<;>rfl) (fun d=>by simp[Op.equalIn,run_underlying hu]) rfl rfl (by rw[←h];cases neg<;>rfl)
  |nilptr=>
   simp only[eqnilA,Option.some.injEq]at h
   exact fin true (fun op=>by cases op<;>rfl) (fun d=>by simp[Op.equalIn,run_underlying hu]) rfl rfl (by rw[←h];cases neg<;>rfl)
  |_=>simp[eqnilA]at h
 ·rename_i e1 e2 e3 hu
  have:=hv _ rfl
  subst this
  cases hx with
  |func f us cs=>
   simp only[eqnilA,Option.some.injEq]at h
   exact fin false (fun op=>by cases op<;>rfl) (fun d=>by simp[Op.equalIn,run_underlying hu]) rfl rfl (by rw[←h];cases neg<;>rfl)
  |nilFunc=>
   simp only[eqnilA,Option.some.injEq]at h
   exact fin true (fun op=>by cases op<;>rfl) (fun d=>by simp[Op.equalIn,run_underlying hu]) rfl rfl (by rw[←h];cases neg<;>rfl)
  |_=>simp[eqnilA]at h
 ·rename_i e hu
  have:=hv _ rfl
  subst this
  cases hx with
  |iface t' u' x'=>
   simp only[eqnilA,Option.some.injEq]at h
   exact fin false (fun op=>by cases op<;>rfl) (fun d=>by simp[Op.equalIn,run_underlying hu]) rfl rfl (by rw[←h];cases neg<;>rfl)
  |nilIface=>
   simp only[eqnilA,Option.some.injEq]at h
   exact fin true (fun op=>by cases op<;>simp[eqGuard]) (fun d=>by simp[Op.equalIn,run_underlying hu]) rfl rfl (by rw[←h];cases neg<;>rfl)
  |_=>simp[eqnilA]at h
theorem cOpt_rep{n:Nat}{a:Act}{T:Env}{o:Option Operand}{x:Option Opd}(hT:TRep G w n a.tmps T)(h:cOpt o=some x):
 (∀y,x.map (ev T)=some y→∃u,o.map a.eval=some u∧Rep G w u y)∧(x.map (ev T)=none→o.map a.eval=none):=by
 cases o with
 |none=>simp only[cOpt,Option.some.injEq]at h;subst h;exact⟨fun y hy=>by simp at hy,fun _=>rfl⟩
 |some o=>
  simp only[cOpt,Option.map_eq_some_iff]at h
  obtain⟨y,h1,rfl⟩:=h
  exact⟨fun z hz=>⟨_,rfl,by simp only[Option.map_some,Option.some.injEq]at hz;rw[←hz];exact cOpd_rep hT h1⟩,fun hz=>by simp at hz⟩
theorem cOpds_map{n:Nat}{a:Act}{T:Env}{os:Array Operand}{xs:List Opd}(hT:TRep G w n a.tmps T)(h:cOpds os.toList=some xs):
 (os.map a.eval).size=(xs.map (ev T)).length∧∀i(h1:i<(os.map a.eval).size)(h2:i<(xs.map (ev T)).length),Rep G w (os.map a.eval)[i] (xs.map (ev T))[i]:=by
 obtain⟨h1,h2⟩:=cOpds_rep (a:=a) hT h
 refine⟨by simpa using h1,fun i j1 j2=> ?_⟩
 have:=h2 i (by simpa using j1) (by simpa using j2)
 simpa using this
theorem bi_ok{a:Act}{b:Builtin}{args:Array Operand}{tys:Array TypeId}{ty:TypeId}{az:Array Value}{H':Heap}{v:AV}(h:args.map a.eval=az)(hk:OpOk P G w H' v (builtin b tys ty (args.map fun|.const _=>true|_=>false) az)):
 OpOk P G w H' v (do let d←resolve a.eval {callee:=.builtin b,args:=args,argTypes:=tys} ty;invoke d.target d.args):=by
 subst h
 exact hk
theorem pure_inv{call:CallF}{op:AOp}{T:Env}{H H':Heap}{v:AV}(hp:clsOf op=.pure)(h:opStep call op T H=some (.val v H')):pureOp op T=some v∧H=H':=by
 have h:(match pureOp op T with|some v=>some (Out.val v H)|none=>none)=some (.val v H'):=by
  cases op<;>first|(simp[clsOf]at hp;done)|exact h
 split at h
 ·rename_i x hx
  simp only[Option.some.injEq,Out.val.injEq]at h
  exact⟨by rw[hx,h.1],h.2⟩
 ·cases h
theorem box_inv{call:CallF}{x:Opd}{T:Env}{H H':Heap}{v:AV}(h:opStep call (.box x) T H=some (.val v H')):ev T x≠.undef∧(∀vs,ev T x≠.tuple vs)∧v=(boxA H (ev T x)).1∧H'=(boxA H (ev T x)).2:=by
 simp only[opStep]at h
 split at h
 ·cases h
 ·cases h
 ·rename_i h1 h2
  simp only[Option.some.injEq,Out.val.injEq]at h
  exact⟨h1,h2,h.1.symm,h.2.symm⟩
theorem op_sound {n : Nat} {a : Act} {T : Env} {H H' : Heap} {o : Oper} {op : AOp} {v : AV} {call : CallF} {mu : Bool} (hT : TRep G w n a.tmps T) (hH : HRep P G w H) (hc : cOp P mu o.op = some op) (hcls : clsOf op ≠ .call)
    (h : opStep call op T H = some (.val v H')) : OpOk P G w H' v (execOp a.eval o) := by
  obtain ⟨dst, oop, oty, pos, after, guard⟩ := o
  simp only at hc
  unfold execOp
  cases oop with
  | move x =>
    simp only [cOp, Option.map_eq_some_iff] at hc
    obtain ⟨y, hy, rfl⟩ := hc
    simp only [opStep, pureOp, Option.some.injEq, Out.val.injEq] at h
    obtain ⟨rfl, rfl⟩ := h
    exact .pureV hH (cOpd_rep hT hy)
  | assign x =>
    simp only [cOp, Option.map_eq_some_iff] at hc
    obtain ⟨y, hy, rfl⟩ := hc
    simp only [opStep, pureOp, Option.some.injEq, Out.val.injEq] at h
    obtain ⟨rfl, rfl⟩ := h
    exact .pureV hH (cOpd_rep hT hy)
  | pick c x y =>
    simp only [cOp] at hc
    split at hc <;> simp only [Option.some.injEq, reduceCtorEq] at hc
    rename_i c' x' y' h1 h2 h3
    subst hc
    (obtain ⟨hq, he⟩ := pure_inv rfl h; subst he; clear h; have h := hq; clear hq)
    simp only [pureOp] at h
    split at h <;> simp only [Option.some.injEq, reduceCtorEq] at h <;> subst h <;> rename_i hb
    · have := cOpd_rep (a := a) hT h1
      rw [hb] at this
      cases hv : a.eval c <;> rw [hv] at this <;> cases this
      refine ⟨.value (a.eval x), a.eval x, w, G, ?_, .inl rfl, .refl _ _, hH, cOpd_rep hT h2⟩
      simp [hv, asBool]
    · have := cOpd_rep (a := a) hT h1
      rw [hb] at this
      cases hv : a.eval c <;> rw [hv] at this <;> cases this
      refine ⟨.value (a.eval y), a.eval y, w, G, ?_, .inl rfl, .refl _ _, hH, cOpd_rep hT h3⟩
      simp [hv, asBool]
  | alloc e =>
    simp only [cOp] at hc
    split at hc <;> try (simp at hc; done)
    rename_i i hi
    split at hc <;> try (simp at hc; done)
    rename_i z hz
    simp only [Option.map_eq_some_iff] at hc
    obtain ⟨x, hx, rfl⟩ := hc
    have hr : Rep G w z x := ofV_rep hx
    obtain ⟨h1, h2, rfl, rfl⟩ := box_inv h
    simp only [ev] at h1 h2 ⊢
    obtain ⟨r1, r2, r3, r4⟩ := run_boxA (P := P) hH hr h1 h2 e
    refine ⟨.value _, _, _, _, ?_, .inl rfl, r2, r3, r4⟩
    simp [Instr.alloc, zeroValue, typeInfo, hi, hz, r1]
  | box e x =>
    simp only [cOp, Option.map_eq_some_iff] at hc
    obtain ⟨y, hy, rfl⟩ := hc
    have hr := cOpd_rep (a := a) hT hy
    obtain ⟨h1, h2, rfl, rfl⟩ := box_inv h
    obtain ⟨r1, r2, r3, r4⟩ := run_boxA (P := P) hH hr h1 h2 e
    refine ⟨.value _, _, _, _, ?_, .inl rfl, r2, r3, r4⟩
    simp [Instr.box, r1]
  | build t parts =>
    simp only [cOp] at hc
    split at hc <;> try (simp at hc; done)
    rename_i z place hz hpl
    simp only [Option.map_eq_some_iff] at hc
    obtain ⟨ps, hps, rfl⟩ := hc
    (obtain ⟨hq, he⟩ := pure_inv rfl h; subst he; clear h; have h := hq; clear hq)
    simp only [pureOp, Option.map_eq_some_iff] at h
    obtain ⟨cs, hcs, rfl⟩ := h
    exact .pure hH (run_buildA hT hz hpl hps hcs)
  | buildSlice t m parts =>
    simp only [cOp] at hc
    split at hc <;> try (simp at hc; done)
    rename_i e ht
    split at hc <;> try (simp at hc; done)
    rename_i es xs he hxs
    split at hc <;> try (simp at hc; done)
    rename_i hcond
    obtain ⟨c1, c2, c3, c4, c5⟩ := hcond
    simp only [Option.some.injEq] at hc
    cases mu with
    | true =>
      simp only [if_true] at hc
      subst hc
      simp only [opStep] at h
      split at h <;> simp only [Option.some.injEq, reduceCtorEq, Out.val.injEq] at h
      rename_i r hr
      obtain ⟨rfl, rfl⟩ := h
      exact .step (run_bsliceM hH hT ht he hxs c1 c2 c3 c5 hr)
    | false =>
      simp only [Bool.false_eq_true, if_false] at hc
      subst hc
      (obtain ⟨hq, he⟩ := pure_inv rfl h; subst he; clear h; have h := hq; clear hq)
      simp only [pureOp] at h
      split at h <;> simp only [Option.some.injEq, reduceCtorEq] at h
      rename_i hok
      subst h
      exact .grow hH (run_bslice hH hT ht he hxs c1 c2 c3 c5 hok.1 hok.2)
  | load t x =>
    simp only [cOp] at hc
    split at hc <;> simp only [Option.some.injEq, reduceCtorEq] at hc
    rename_i g n' y h1 h2 h3
    subst hc
    simp only [opStep] at h
    split at h <;> simp only [Option.some.injEq, reduceCtorEq, Out.val.injEq] at h
    rename_i z hz
    obtain ⟨rfl, rfl⟩ := h
    exact .pure hH (run_loadA hH (cOpd_rep hT h3) hz h1 h2)
  | store t x y =>
    simp only [cOp] at hc
    split at hc <;> simp only [Option.some.injEq, reduceCtorEq] at hc
    rename_i n' x' y' h1 h2 h3
    subst hc
    simp only [opStep] at h
    split at h <;> simp only [Option.some.injEq, reduceCtorEq, Out.val.injEq] at h
    rename_i H1 hz
    obtain ⟨rfl, rfl⟩ := h
    obtain ⟨w', r1, r2, r3⟩ := run_storeA hH (cOpd_rep hT h2) (cOpd_rep (a := a) hT h3) hz h1
    exact ⟨.skip, Go.undef, w', G, by simp [r1], .inr ⟨rfl, rfl⟩, r2, r3, .undef _⟩
  | nilCheck x =>
    simp only [cOp, Option.map_eq_some_iff] at hc
    obtain ⟨y, hy, rfl⟩ := hc
    (obtain ⟨hq, he⟩ := pure_inv rfl h; subst he; clear h; have h := hq; clear hq)
    have hr := cOpd_rep (a := a) hT hy
    simp only [pureOp] at h
    split at h <;> simp only [Option.some.injEq, reduceCtorEq] at h <;> subst h <;> rename_i he <;> rw [he] at hr
    all_goals
      generalize hu : a.eval x = u at hr
      cases hr
      exact ⟨.value _, _, w, G, by simp only [hu]; rfl, .inl rfl, .refl _ _, hH, by constructor <;> assumption⟩
  | binOp bop t x y yt =>
    simp only [cOp] at hc
    split at hc <;> try (simp at hc; done)
    rename_i x' y' hx hy
    have rx := cOpd_rep (a := a) hT hx
    have ry := cOpd_rep (a := a) hT hy
    split at hc
    · rename_i nk hnil
      split at hc <;> simp only [Option.some.injEq, reduceCtorEq] at hc <;> subst hc <;> (obtain ⟨hq, he⟩ := pure_inv rfl h; subst he; clear h; have h := hq; clear hq)
      · exact .pure hH (run_eqnil (neg := false) rx h hnil fun c hc => by subst hc; rfl)
      · exact .pure hH (run_eqnil (neg := true) rx h hnil fun c hc => by subst hc; rfl)
    unfold cBin at hc
    split at hc
    · rename_i hok
      simp only [Option.some.injEq] at hc
      subst hc
      (obtain ⟨hq, he⟩ := pure_inv rfl h; subst he; clear h; have h := hq; clear hq)
      exact .grow hH (run_binA hH.base rx ry h hok)
    · split at hc
      · rename_i hbo
        have hbt : P.underlying t = some .bool := by
          unfold boolOk at hbo
          split at hbo
          · assumption
          · cases hbo
        split at hc <;> simp only [Option.some.injEq, reduceCtorEq] at hc <;> subst hc <;> (obtain ⟨hq, he⟩ := pure_inv rfl h; subst he; clear h; have h := hq; clear hq)
        · exact .pure hH (run_eqb (neg := false) rx ry h hbt)
        · exact .pure hH (run_eqb (neg := true) rx ry h hbt)
      · split at hc <;> simp only [Option.some.injEq, reduceCtorEq] at hc <;> subst hc <;> (obtain ⟨hq, he⟩ := pure_inv rfl h; subst he; clear h; have h := hq; clear hq)
        · exact .pure hH (run_eqst (neg := false) (by assumption) rx ry h)
        · exact .pure hH (run_eqst (neg := true) (by assumption) rx ry h)
  | unOp uop t x =>
    simp only [cOp, Option.map_eq_some_iff] at hc
    obtain ⟨y, hy, rfl⟩ := hc
    (obtain ⟨hq, he⟩ := pure_inv rfl h; subst he; clear h; have h := hq; clear hq)
    exact .pure hH (run_un (cOpd_rep hT hy) h)
  | convert s d x =>
    simp only [cOp] at hc
    split at hc <;> try (simp at hc; done)
    · rename_i ds k y h1 h2 h3
      simp only [Option.some.injEq] at hc
      subst hc
      (obtain ⟨hq, he⟩ := pure_inv rfl h; subst he; clear h; have h := hq; clear hq)
      exact .pure hH (run_conv_int (cOpd_rep hT h3) h h1 h2)
    · rename_i k y h1 h2 h3
      simp only [Option.some.injEq] at hc
      subst hc
      (obtain ⟨hq, he⟩ := pure_inv rfl h; subst he; clear h; have h := hq; clear hq)
      exact .pure hH (run_conv_flt (cOpd_rep hT h3) h h1 h2)
    · rename_i y h1 h2 h3
      simp only [Option.some.injEq] at hc
      subst hc
      (obtain ⟨hq, he⟩ := pure_inv rfl h; subst he; clear h; have h := hq; clear hq)
      exact .pure hH (run_conv_str (cOpd_rep hT h3) h h1 h2)
    · rename_i e y h1 h2 h3
      split at hc <;> simp only [Option.some.injEq, reduceCtorEq] at hc
      rename_i he
      subst hc
      (obtain ⟨hq, he⟩ := pure_inv rfl h; subst he; clear h; have h := hq; clear hq)
      exact .pure hH (run_conv_bytes (cOpd_rep hT h3) h h1 he h2)
  | makeInterface t x =>
    simp only [cOp] at hc
    split at hc <;> simp only [Option.some.injEq, reduceCtorEq] at hc
    rename_i d y hne h1 h2
    subst hc
    (obtain ⟨hq, he⟩ := pure_inv rfl h; subst he; clear h; have h := hq; clear hq)
    simp only [pureOp, Option.some.injEq] at h
    subst h
    refine .pure hH ⟨_, ?_, .iface t _ _ (cOpd_rep hT h2)⟩
    cases d <;> first | exact (hne _ rfl).elim | simp [Instr.makeInterface, run_underlying h1]
  | makeFunc fn first caps =>
    cases fn <;> simp only [cOp, reduceCtorEq] at hc
    split at hc <;> try (simp at hc; done)
    rename_i f hfirst
    simp only [Option.map_eq_some_iff] at hc
    obtain ⟨xs, hxs, rfl⟩ := hc
    (obtain ⟨hq, he⟩ := pure_inv rfl h; subst he; clear h; have h := hq; clear hq)
    simp only [pureOp, Option.some.injEq] at h
    subst h
    obtain ⟨j1, j2⟩ := cOpds_map (a := a) hT hxs
    have hf : first = #[] := by simpa using hfirst
    subst hf
    exact .pure hH ⟨_, rfl, by rw [show Array.map a.eval #[] = #[] from by simp]; exact .func f _ _ j1 j2⟩
  | slice t x lo hi mx =>
    simp only [cOp] at hc
    split at hc <;> try (simp at hc; done)
    rename_i x' lo' hi' mx' h1 h2 h3 h4
    obtain ⟨l1, l2⟩ := cOpt_rep (a := a) hT h2
    obtain ⟨i1, i2⟩ := cOpt_rep (a := a) hT h3
    obtain ⟨m1, m2⟩ := cOpt_rep (a := a) hT h4
    split at hc
    · rename_i ht
      simp only [Option.some.injEq] at hc
      subst hc
      (obtain ⟨hq, he⟩ := pure_inv rfl h; subst he; clear h; have h := hq; clear hq)
      exact .pure hH (run_slice (cOpd_rep hT h1) h (.inl ⟨ht, rfl⟩) l1 l2 i1 i2 m1 m2)
    · rename_i e ht
      split at hc <;> try (simp at hc; done)
      rename_i es he
      split at hc <;> try (simp at hc; done)
      rename_i hne
      simp only [Option.some.injEq] at hc
      subst hc
      (obtain ⟨hq, he⟩ := pure_inv rfl h; subst he; clear h; have h := hq; clear hq)
      exact .pure hH (run_slice (cOpd_rep hT h1) h (.inr ⟨e, ht, he, hne⟩) l1 l2 i1 i2 m1 m2)
    · simp at hc
  | fieldAddr s x f =>
    simp only [cOp] at hc
    split at hc <;> try (simp at hc; done)
    rename_i fl y hf hy
    split at hc <;> try (simp at hc; done)
    rename_i n' hn
    split at hc <;> try (simp at hc; done)
    rename_i hne
    simp only [Option.some.injEq] at hc
    subst hc
    (obtain ⟨hq, he⟩ := pure_inv rfl h; subst he; clear h; have h := hq; clear hq)
    exact .pure hH (run_fld (cOpd_rep hT hy) h hf hn hne)
  | field s x f =>
    simp only [cOp] at hc
    split at hc <;> try (simp at hc; done)
    rename_i fl y hf hy
    split at hc <;> try (simp at hc; done)
    rename_i g n' hg hn
    split at hc <;> try (simp at hc; done)
    rename_i hne
    simp only [Option.some.injEq] at hc
    subst hc
    (obtain ⟨hq, he⟩ := pure_inv rfl h; subst he; clear h; have h := hq; clear hq)
    exact .pure hH (run_fldv (cOpd_rep hT hy) h hf hg hn hne)
  | indexAddr t x i =>
    simp only [cOp] at hc
    split at hc <;> try (simp at hc; done)
    rename_i e x' i' ht hx hi
    simp only [Option.map_eq_some_iff] at hc
    obtain ⟨es, he, rfl⟩ := hc
    (obtain ⟨hq, he⟩ := pure_inv rfl h; subst he; clear h; have h := hq; clear hq)
    exact .pure hH (run_idx (cOpd_rep hT hx) (cOpd_rep hT hi) h ht he)
  | index t x i =>
    simp only [cOp] at hc
    split at hc <;> simp only [Option.some.injEq, reduceCtorEq] at hc
    rename_i x' i' ht hx hi
    subst hc
    (obtain ⟨hq, he⟩ := pure_inv rfl h; subst he; clear h; have h := hq; clear hq)
    exact .pure hH (run_idxs (cOpd_rep hT hx) (cOpd_rep hT hi) h ht)
  | extract x i =>
    simp only [cOp, Option.map_eq_some_iff] at hc
    obtain ⟨y, hy, rfl⟩ := hc
    (obtain ⟨hq, he⟩ := pure_inv rfl h; subst he; clear h; have h := hq; clear hq)
    exact .pure hH (run_extract (cOpd_rep hT hy) h)
  | makeSlice t x y =>
    simp only [cOp] at hc
    split at hc <;> try (simp at hc; done)
    rename_i hmu
    obtain ⟨-, hsame⟩ := hmu
    split at hc <;> try (simp at hc; done)
    rename_i e x' ht hx
    split at hc <;> try (simp at hc; done)
    rename_i i z hi hz
    split at hc <;> try (simp at hc; done)
    rename_i hcond
    obtain ⟨c1, c2, c3⟩ := hcond
    simp only [Option.some.injEq] at hc
    subst hc
    simp only [opStep] at h
    split at h <;> simp only [Option.some.injEq, reduceCtorEq, Out.val.injEq] at h
    rename_i r hr
    obtain ⟨rfl, rfl⟩ := h
    cases hz' : i.zero with
    | none => simp [hz'] at c3
    | some zv =>
      simp only [hz', Option.any_some, beq_iff_eq] at c3
      rw [← sameOpd_eq hsame]
      exact .step (run_makeA hH (cOpd_rep hT hx) hr ht hi hz' c3 hz c2)
  | panic x =>
    simp only [cOp, Option.map_eq_some_iff] at hc
    obtain ⟨y, hy, rfl⟩ := hc
    simp only [opStep] at h
    split at h <;> simp at h
  | call c =>
    obtain ⟨callee, args, argTypes⟩ := c
    cases callee with
    | value f =>
      simp only [cOp] at hc
      split at hc <;> simp only [Option.some.injEq, reduceCtorEq] at hc
      subst hc
      exact absurd (by cases mu <;> rfl) hcls
    | invoke r m => simp [cOp] at hc
    | builtin b =>
      cases b <;> try (simp [cOp] at hc; done)
      · -- append
        simp only [cOp] at hc
        split at hc <;> try (simp at hc; done)
        rename_i x y t u hargs htys
        split at hc <;> try (simp at hc; done)
        rename_i e e2 x' y' ht hu hx hy
        split at hc <;> try (simp at hc; done)
        rename_i i hi
        split at hc <;> try (simp at hc; done)
        rename_i hcond
        obtain ⟨c1, c2, c3⟩ := hcond
        simp only [Option.some.injEq] at hc
        have e1 : args = #[x, y] := by rw [← args.toArray_toList, hargs]
        have e3 : argTypes = #[t, u] := by rw [← argTypes.toArray_toList, htys]
        subst e1; subst e3
        cases hz : i.zero with
        | none => simp [hz] at c3
        | some z =>
          simp only [hz, Option.any_some, beq_iff_eq] at c3
          refine bi_ok (az := #[a.eval x, a.eval y]) (by simp) ?_
          cases mu with
          | true =>
            simp only [if_true] at hc
            subst hc
            simp only [opStep] at h
            split at h <;> simp only [Option.some.injEq, reduceCtorEq, Out.val.injEq] at h
            rename_i r hr
            obtain ⟨rfl, rfl⟩ := h
            exact .step (run_appendMA hH (cOpd_rep hT hx) (cOpd_rep hT hy) hr ht hu hi hz c3 c1 c2)
          | false =>
            simp only [Bool.false_eq_true, if_false] at hc
            subst hc
            simp only [opStep] at h
            split at h <;> simp only [Option.some.injEq, reduceCtorEq, Out.val.injEq] at h
            rename_i r hr
            obtain ⟨rfl, rfl⟩ := h
            exact .step (run_appendA hH (cOpd_rep hT hx) (cOpd_rep hT hy) hr ht hu hi hz c3 c1 c2)
      · -- clear
        simp only [cOp] at hc
        split at hc <;> try (simp at hc; done)
        rename_i x t hargs htys
        split at hc <;> try (simp at hc; done)
        rename_i e x' ht hx
        simp only [Option.map_eq_some_iff] at hc
        obtain ⟨z, hz, rfl⟩ := hc
        have e1 : args = #[x] := by rw [← args.toArray_toList, hargs]
        have e3 : argTypes = #[t] := by rw [← argTypes.toArray_toList, htys]
        subst e1; subst e3
        simp only [opStep] at h
        split at h <;> simp only [Option.some.injEq, reduceCtorEq, Out.val.injEq] at h
        rename_i H1 hr
        obtain ⟨rfl, rfl⟩ := h
        refine bi_ok (az := #[a.eval x]) (by simp) ?_
        obtain ⟨w', r1, r2, r3⟩ := run_clearA (ty := oty) hH (cOpd_rep (a := a) hT hx) hr ht hz
        exact .step ⟨.tuple #[], w', G, r1, r2, r3, .tuple _ _ rfl fun i h1 => absurd h1 (by simp)⟩
      · -- len
        simp only [cOp] at hc
        split at hc <;> try (simp at hc; done)
        rename_i x t hargs htys
        have e1 : args = #[x] := by rw [← args.toArray_toList, hargs]
        have e3 : argTypes = #[t] := by rw [← argTypes.toArray_toList, htys]
        subst e1; subst e3
        split at hc <;> simp only [Option.some.injEq, reduceCtorEq] at hc <;> subst hc <;> (obtain ⟨hq, he⟩ := pure_inv rfl h; subst he; clear h; have h := hq; clear hq)
        · refine bi_ok (az := #[a.eval x]) (by simp) ?_
          exact .pure hH (run_len (st := true) (cOpd_rep hT (by assumption)) h (by assumption))
        · refine bi_ok (az := #[a.eval x]) (by simp) ?_
          exact .pure hH (run_len (st := false) (cOpd_rep hT (by assumption)) h ⟨_, by assumption⟩)
      · -- max
        simp only [cOp] at hc
        split at hc <;> try (simp at hc; done)
        rename_i x y hargs
        split at hc <;> simp only [Option.some.injEq, reduceCtorEq] at hc
        rename_i x' y' hx hy
        subst hc
        (obtain ⟨hq, he⟩ := pure_inv rfl h; subst he; clear h; have h := hq; clear hq)
        have e1 : args = #[x, y] := by rw [← args.toArray_toList, hargs]
        subst e1
        refine bi_ok (az := #[a.eval x, a.eval y]) (by simp) ?_
        exact .pure hH (run_mm (mx := true) (az := argTypes) (ty := oty) (cOpd_rep hT hx) (cOpd_rep (a := a) hT hy) h)
      · -- min
        simp only [cOp] at hc
        split at hc <;> try (simp at hc; done)
        rename_i x y hargs
        split at hc <;> simp only [Option.some.injEq, reduceCtorEq] at hc
        rename_i x' y' hx hy
        subst hc
        (obtain ⟨hq, he⟩ := pure_inv rfl h; subst he; clear h; have h := hq; clear hq)
        have e1 : args = #[x, y] := by rw [← args.toArray_toList, hargs]
        subst e1
        refine bi_ok (az := #[a.eval x, a.eval y]) (by simp) ?_
        exact .pure hH (run_mm (mx := false) (az := argTypes) (ty := oty) (cOpd_rep hT hx) (cOpd_rep (a := a) hT hy) h)
  | _ => simp [cOp] at hc
end Go.Aa


