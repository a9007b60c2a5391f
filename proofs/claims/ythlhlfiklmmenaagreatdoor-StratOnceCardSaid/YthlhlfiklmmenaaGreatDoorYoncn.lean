/-
  WHAT THE LAW LEANS ON, part 14 of 14: a machine of values and its soundness; the functions of the law upon it; what they come to.
-/
import Derived.Test.YthlhlfiklmmenaaGreatDoorYoncm
import Derived.Shelf.Sort.Plain
import Derived.Shelf.Slices.In.SortNone
import Derived.Shelf.Small.Strs
import Derived.Shelf.Spec.SlicesInsertGrow
import Derived.JoinedOf
set_option linter.unusedVariables false
set_option linter.unusedSimpArgs false
set_option maxRecDepth 100000
namespace Go.Aa.T
open Go.Aa Go.Proofs
variable{s:St}{lo hi:AV}
theorem hasF_iff{out:List Fnd}{nm:List UInt8}:hasF out nm=true↔nm∈out.map (·.1):=by
 unfold hasF
 rw[List.any_eq_true]
 constructor
 ·rintro⟨f,hf,e⟩
  exact List.mem_map.2 ⟨f,hf,by simpa using e⟩
 ·intro h
  obtain⟨f,hf,e⟩:=List.mem_map.1 h
  exact⟨f,hf,by simpa using e⟩
theorem addF_nms(out:List Fnd)(w:Int)(nm x:List UInt8):x∈(addF out w nm).map (·.1)↔x∈out.map (·.1)∨x=nm:=by
 unfold addF
 by_cases h:hasF out nm=true
 ·rw[if_pos h]
  constructor
  ·exact .inl
  ·rintro(h1|rfl)
   ·exact h1
   ·exact hasF_iff.1 h
 ·rw[if_neg h,List.map_append,List.mem_append]
  simp
theorem addF_nodup{out:List Fnd}(h:(out.map (·.1)).Nodup)(w:Int)(nm:List UInt8):((addF out w nm).map (·.1)).Nodup:=by
 unfold addF
 by_cases hh:hasF out nm=true
 ·rw[if_pos hh];exact h
 ·rw[if_neg hh,List.map_append,List.nodup_append]
  refine⟨h,by simp,?_⟩
  intro a ha b hb e
  simp only[List.map_cons,List.map_nil,List.mem_singleton]at hb
  subst hb
  subst e
  exact hh (hasF_iff.2 ha)
theorem addF_why{out:List Fnd}{w v:Int}{nm x:List UInt8}:(x,v)∈addF out w nm↔(x,v)∈out∨(x=nm∧v=w∧nm∉out.map (·.1)):=by
 unfold addF
 by_cases hh:hasF out nm=true
 ·rw[if_pos hh]
  constructor
  ·exact .inl
  ·rintro(h|⟨-,-,h⟩)
   ·exact h
   ·exact absurd (hasF_iff.1 hh) h
 ·rw[if_neg hh,List.mem_append,List.mem_singleton,Prod.mk.injEq]
  have:nm∉out.map (·.1):=fun h=>hh (hasF_iff.2 h)
  simp[this]
theorem inF_nms(w:Int)(x:List UInt8):∀(l:List (List UInt8))(out:List Fnd),x∈(inF w out l).map (·.1)↔x∈out.map (·.1)∨x∈l
 |[],out=>by simp[inF]
 |nm::l,out=>by
  rw[inF,inF_nms w x l,addF_nms,List.mem_cons,or_assoc]
theorem inF_nodup(w:Int):∀(l:List (List UInt8)){out:List Fnd},(out.map (·.1)).Nodup→((inF w out l).map (·.1)).Nodup
 |[],out,h=>h
 |nm::l,out,h=>inF_nodup w l (addF_nodup h w nm)
theorem inF_why{w v:Int}{x:List UInt8}:∀(l:List (List UInt8)){out:List Fnd},(x,v)∈inF w out l↔(x,v)∈out∨(x∈l∧v=w∧x∉out.map (·.1))
 |[],out=>by simp[inF]
 |nm::l,out=>by
  rw[inF,inF_why l,addF_why,addF_nms,List.mem_cons]
  constructor
  ·rintro((h|⟨rfl,h2,h3⟩)|⟨h1,h2,h3⟩)
   ·exact .inl h
   ·exact .inr ⟨.inl rfl,h2,h3⟩
   ·exact .inr ⟨.inr h1,h2,fun h=>h3 (.inl h)⟩
  ·rintro(h|⟨h1,h2,h3⟩)
   ·exact .inl (.inl h)
   ·by_cases e:x=nm
    ·subst e
     exact .inl (.inr ⟨rfl,h2,h3⟩)
    ·rcases h1 with h1|h1
     ·exact absurd h1 e
     ·refine .inr ⟨h1,h2,?_⟩
      rintro(h|h)
      ·exact h3 h
      ·exact e h
def fstW(s:St)(lo hi:AV)(nm:List UInt8):List Int→Int
 |[]=>0
 |w::l=>if nmB (oneS s lo hi w) nm=true then w else fstW s lo hi nm l
theorem nmB_iff{l:List (List UInt8)}{nm:List UInt8}:nmB l nm=true↔nm∈l:=by
 unfold nmB
 simp
theorem alF_nodup:∀(l:List Int){out:List Fnd},(out.map (·.1)).Nodup→((alF s lo hi out l).map (·.1)).Nodup
 |[],out,h=>h
 |w::l,out,h=>alF_nodup l (inF_nodup w _ h)
theorem fstW_zero{nm:List UInt8}:∀{l:List Int},(∀w∈l,0<w)→(0<fstW s lo hi nm l↔∃w∈l,nm∈oneS s lo hi w)
 |[],h=>by simp[fstW]
 |w::l,h=>by
  rw[fstW]
  by_cases hh:nmB (oneS s lo hi w) nm=true
  ·rw[if_pos hh]
   exact⟨fun _=>⟨w,by simp,nmB_iff.1 hh⟩,fun _=>h w (by simp)⟩
  ·rw[if_neg hh,fstW_zero fun v hv=>h v (List.mem_cons_of_mem _ hv)]
   constructor
   ·rintro⟨v,hv,e⟩
    exact⟨v,List.mem_cons_of_mem _ hv,e⟩
   ·rintro⟨v,hv,e⟩
    rcases List.mem_cons.1 hv with rfl|hv
    ·exact absurd (nmB_iff.2 e) hh
    ·exact⟨v,hv,e⟩
theorem alF_mem{nm:List UInt8}:∀(l:List Int){out:List Fnd},nm∈(alF s lo hi out l).map (·.1)↔nm∈out.map (·.1)∨∃w∈l,nm∈oneS s lo hi w
 |[],out=>by simp[alF]
 |w::l,out=>by
  rw[alF,alF_mem l,inF_nms]
  constructor
  ·rintro((h|h)|⟨v,hv,h⟩)
   ·exact .inl h
   ·exact .inr ⟨w,by simp,h⟩
   ·exact .inr ⟨v,List.mem_cons_of_mem _ hv,h⟩
  ·rintro(h|⟨v,hv,h⟩)
   ·exact .inl (.inl h)
   ·rcases List.mem_cons.1 hv with rfl|hv
    ·exact .inl (.inr h)
    ·exact .inr ⟨v,hv,h⟩
theorem alF_why {nm : List UInt8} {v : Int} : ∀ (l : List Int) {out : List Fnd}, nm ∉ out.map (·.1) → (nm, v) ∈ alF s lo hi out l → v = fstW s lo hi nm l
  | [], out, h, hv => absurd (List.mem_map.2 ⟨_, hv, rfl⟩) h
  | w :: l, out, h, hv => by
    rw [alF] at hv
    rw [fstW]
    by_cases hh : nmB (oneS s lo hi w) nm = true
    · rw [if_pos hh]
      have hin : (nm, w) ∈ inF w out (oneS s lo hi w) := (inF_why _).2 (.inr ⟨nmB_iff.1 hh, rfl, h⟩)
      -- what is there stays, and is there once
      have stay : ∀ (l : List Int) (out : List Fnd), (nm, w) ∈ out → (nm, w) ∈ alF s lo hi out l := by
        intro l
        induction l with
        | nil => intro out h; exact h
        | cons u l ih => intro out h; exact ih _ ((inF_why _).2 (.inl h))
      have only : ∀ (l : List Int) (out : List Fnd), nm ∈ out.map (·.1) → (nm, v) ∈ alF s lo hi out l → (nm, v) ∈ out := by
        intro l
        induction l with
        | nil => intro out _ h; exact h
        | cons u l ih =>
          intro out hm h
          have := ih _ ((inF_nms u nm _ out).2 (.inl hm)) h
          rcases (inF_why _).1 this with h | ⟨-, -, h⟩
          · exact h
          · exact absurd hm h
      have := only l _ (List.mem_map.2 ⟨_, hin, rfl⟩) hv
      rcases (inF_why _).1 this with h1 | ⟨-, h2, -⟩
      · exact absurd (List.mem_map.2 ⟨_, h1, rfl⟩) h
      · exact h2
    · rw [if_neg hh]
      refine alF_why l ?_ hv
      rw [inF_nms]
      rintro (h1 | h1)
      · exact h h1
      · exact hh (nmB_iff.2 h1)

def gotF(L:List Fnd)(nm:List UInt8):Nat:=(L.filter fun f=>f.1==nm).length
theorem got_one{nm:List UInt8}:∀{L:List Fnd},(L.map (·.1)).Nodup→gotF L nm=if nm∈L.map (·.1)then 1 else 0
 |[],h=>rfl
 |f::L,h=>by
  obtain⟨h1,h2⟩:=List.nodup_cons.1 h
  have ih:=got_one (nm:=nm) h2
  unfold gotF at ih⊢
  rw[List.filter_cons]
  by_cases e:f.1=nm
  ·have hn:nm∉L.map (·.1):=by rw[←e];exact h1
   rw[if_neg hn]at ih
   rw[if_pos (by simpa using e),List.length_cons,ih,if_pos (by rw[List.map_cons,e];simp)]
  ·rw[if_neg (by simpa using e),ih]
   have:(nm∈(f::L).map (·.1))↔nm∈L.map (·.1):=by
    rw[List.map_cons,List.mem_cons]
    exact⟨fun h=>h.resolve_left fun e'=>e e'.symm,.inr⟩
   simp only[this]
theorem one_pod{w:Int}{nm:List UInt8}(h:nm∈oneS s lo hi w):∃p∈s.pods,p.name=nm∧p.hold=false∧p.node≠[]:=by
 obtain⟨p,hp,rfl⟩:=List.mem_map.1 h
 obtain⟨h1,h2⟩:=List.mem_filter.1 hp
 refine⟨p,h1,rfl,?_,?_⟩
 ·cases e:p.hold with
  |false=>rfl
  |true=>simp[foundB,e]at h2
 ·intro e
  simp[foundB,e]at h2
theorem pod_uniq(hs:srtP s.pods){p q:Pod}(hp:p∈s.pods)(hq:q∈s.pods)(e:p.name=q.name):p=q:=by
 obtain⟨i,hi,rfl⟩:=List.getElem_of_mem hp
 obtain⟨j,hj,rfl⟩:=List.getElem_of_mem hq
 have irr:∀x:List UInt8,Op.bytesLess x x=true→False:=fun x h=>List.lt_irrefl _ (less_lt.1 h)
 rcases Nat.lt_trichotomy i j with h|h|h
 ·have:=List.pairwise_iff_getElem.1 hs i j hi hj h
  rw[e]at this;exact(irr _ this).elim
 ·subst h;rfl
 ·have:=List.pairwise_iff_getElem.1 hs j i hj hi h
  rw[e]at this;exact(irr _ this).elim
theorem one_not(hs:srtP s.pods){p:Pod}(hp:p∈s.pods)(h:p.hold=true∨p.node=[])(w:Int):p.name∉oneS s lo hi w:=fun hm=>by
 obtain⟨q,hq,e,h1,h2⟩:=one_pod hm
 have:=pod_uniq hs hq hp e
 subst this
 rcases h with h|h
 ·rw[h1]at h;cases h
 ·exact h2 h
theorem got_sum (hs : srtP s.pods) (on : List Int) : sumN (s.pods.map fun p => gotF (alF s lo hi [] on) p.name) = (alF s lo hi [] on).length := by
  have hn := alF_nodup (s := s) (lo := lo) (hi := hi) on (out := []) (by simp)
  have e1 : sumN (s.pods.map fun p => gotF (alF s lo hi [] on) p.name) = sumN ((alF s lo hi [] on).map fun f => (s.pods.filter fun p => f.1 == p.name).length) :=
    twice (fun (p : Pod) (f : Fnd) => f.1 == p.name) (alF s lo hi [] on) s.pods
  have e2 : sumN ((alF s lo hi [] on).map fun f => (s.pods.filter fun p => f.1 == p.name).length) = sumN ((alF s lo hi [] on).map fun f => if (fun _ : Fnd => true) f = true then 1 else 0) := by
    refine sum_congr fun f hf => ?_
    have hm : f.1 ∈ (alF s lo hi [] on).map (·.1) := List.mem_map.2 ⟨f, hf, rfl⟩
    rw [alF_mem] at hm
    rcases hm with hm | ⟨w, -, hm⟩
    · simp at hm
    · obtain ⟨p, hp, e, -, -⟩ := one_pod hm
      have : s.pods.filter (fun q => f.1 == q.name) = s.pods.filter (fun q => q.name == p.name) := List.filter_congr fun q _ => by
        rw [e]
        exact Bool.beq_comm
      rw [this]
      obtain ⟨i, hi, rfl⟩ := List.getElem_of_mem hp
      -- it is there once
      have key : ∀ (l : List Pod), srtP l → ∀ p ∈ l, (l.filter fun q => q.name == p.name).length = 1 := by
        intro l
        induction l with
        | nil => intro _ p hp; cases hp
        | cons a l ih =>
          intro hs p hp
          obtain ⟨h1, h2⟩ := List.pairwise_cons.1 hs
          rcases List.mem_cons.1 hp with rfl | hp
          · rw [List.filter_cons, if_pos (by simp), List.length_cons]
            have : l.filter (fun q => q.name == p.name) = [] := by
              rw [List.filter_eq_nil_iff]
              intro q hq
              have := h1 q hq
              intro e
              rw [show q.name = p.name by simpa using e] at this
              exact List.lt_irrefl _ (less_lt.1 this)
            rw [this]; rfl
          · have := h1 p hp
            rw [List.filter_cons, if_neg (by
              intro e
              rw [show a.name = p.name by simpa using e] at this
              exact List.lt_irrefl _ (less_lt.1 this))]
            exact ih h2 p hp
      exact key s.pods hs _ (List.getElem_mem hi)
  rw [e1, e2, sum_one, List.filter_eq_self.2 (fun _ _ => rfl)]
end Go.Aa.T
set_option linter.unusedVariables false
set_option linter.unusedSimpArgs false
set_option maxRecDepth 100000
namespace Go.Aa.T
open Go.Aa Go.Proofs
def stepW(w:Int)(nm:List UInt8):List (List UInt8)→Int→Int
 |[],c=>c
 |x::l,c=>stepW w nm l (if x=nm then w else c)
theorem stepW_eq(w:Int)(nm:List UInt8):∀(l:List (List UInt8))(c:Int),stepW w nm l c=if nmB l nm=true then w else c
 |[],c=>rfl
 |x::l,c=>by
  rw[stepW,stepW_eq w nm l]
  by_cases h:x=nm
  ·rw[if_pos h,show nmB (x::l) nm=true by simp[nmB,h]]
   simp
  ·rw[if_neg h,show nmB (x::l) nm=nmB l nm by simp[nmB,h]]
theorem so_names(s:St)(on:List Int)(hon:on.length=5)(lo hi:AV)(tk:List Nat)(L:List AV)(n:Nat)(i:Nat)(p:Pod)(ex:List (List AV))(m:Nat)(w:Int)(hw:on[m]?=some w)(x:List (List UInt8))(hx:x.length≤1000)(c0:Int)(R:ARes×Heap→Prop)
 (K:∀(T:Env),Has T [(4,.ptr 0 0),(9,.ptr 1 0),(11,.sl .sh L),(12,.int .i64 (n:Nat)),(13,.int .i64 i),(14,.ptr (ex.length+2) 0),(15,.int .i64 (stepW w p.name x c0)),(16,.int .i64 ((m:Int)-1))]→
   Goes cfg a6 k6_2 T ⟨(encSt s).cells::[lo,hi,.sl (skF on) (on.map encJ)]::(ex++[(encPd p).cells]),tk,[]⟩ R):
 ∀(post:List (List UInt8))(j:Nat)(hd:x.drop j=post)(c:Int)(he:stepW w p.name post c=stepW w p.name x c0)(T:Env)
 (hT:Has T [(4,.ptr 0 0),(9,.ptr 1 0),(11,.sl .sh L),(12,.int .i64 (n:Nat)),(13,.int .i64 i),(14,.ptr (ex.length+2) 0),(15,.int .i64 c),(16,.int .i64 (((m+1:Nat):Int)-1)),(17,.sl .sh (x.map .str)),(18,.int .i64 j)]),
 Goes cfg a6 k6_3 T ⟨(encSt s).cells::[lo,hi,.sl (skF on) (on.map encJ)]::(ex++[(encPd p).cells]),tk,[]⟩ R:=by
 have hml:=(List.getElem?_eq_some_iff.1 hw).1
 have hwi:idxA 1 (.sl (skF on) (on.map encJ)) (.int .i64 (((m+1:Nat):Int)-1))=some (.ref [.int .i64 w]):=by
  rw[show(((m+1:Nat):Int)-1)=(m:Nat)by omega]
  exact idx_get (f:=encJ) hw rfl
 have sb:binA .sub (.int .i64 (((m+1:Nat):Int)-1)) (.int .i64 1)=some (.int .i64 ((m:Int)-1)):=by
  rw[subI (by omega) (by omega)]
  congr 2
  omega
 intro post
 induction post with
 |nil=>
  intro j hd c he T hT
  have hge:=drop_ge hd
  have k:=K
  rw[←he,show stepW w p.name [] c=c from rfl]at k
  exact gG 120 _ hT (.len (lM .sh .str x)<|.no (dF ((↑j:Int)<(↑x.length:Int)))<|.bin sb<|.cutQ k6_2 [(4,.ptr 0 0),(9,.ptr 1 0),(11,.sl .sh L),(12,.int .i64 ↑n),(13,.int .i64 ↑i),(14,.ptr (ex.length+2) 0),(15,.int .i64 c),(16,.int .i64 ((↑m:Int)-(1:Int)))] ({boxes:=[.sl .sh (s.nodes.map encN),.sl .sh (s.pods.map encPd),.sl .sh (s.buds.map encB)]::[lo,hi,.sl (skF on) (on.map encJ)]::(ex++[[AV.str p.name,.str p.owner,.int .i64 p.prio,.sl .sh (p.need.map encA),.sl .sh (p.labels.map encP),.sl .sh (p.sel.map encM),.sl .sh (p.tols.map encL),.str p.key,.int .i64 p.most,.str p.node,.bool p.hold]]),toks:=tk,loops:=[]:Heap}) (fun T hT=>(k T hT)))
 |cons y post ih=>
  intro j hd c he T hT
  have hlt:=drop_lt hd
  have hnx:=drop_next hd
  have hyi:idxA 1 (.sl .sh (x.map .str)) (.int .i64 (j:Nat))=some (.ref [.str y]):=idx_row (f:=AV.str) hd rfl
  have inc:=inc_i (i:=j) (by omega)
  by_cases h:y=p.name
  ·have ih':=ih (j+1) hnx w (by rw[←he,show stepW w p.name (y::post) c=stepW w p.name post (if y=p.name then w else c)from rfl,if_pos h])
   exact let ζ1:Heap:={boxes:=[.sl .sh (s.nodes.map encN),.sl .sh (s.pods.map encPd),.sl .sh (s.buds.map encB)]::[lo,hi,.sl (skF on) (on.map encJ)]::(ex++[[AV.str p.name,.str p.owner,.int .i64 p.prio,.sl .sh (p.need.map encA),.sl .sh (p.labels.map encP),.sl .sh (p.sel.map encM),.sl .sh (p.tols.map encL),.str p.key,.int .i64 p.most,.str p.node,.bool p.hold]]),toks:=tk,loops:=[]:Heap};gG 160 _ hT (.len (lM .sh .str x)<|.yes (dT ((↑j:Int)<(↑x.length:Int)))<|.idx hyi<|.load (rfl:loadA false 1 ζ1 (.ref [.str y])=some (.str y))<|.load (lB false 1 ζ1 (ex.length+2) 0 (.str p.name) [.str p.name,.str p.owner,.int .i64 p.prio,.sl .sh (p.need.map encA),.sl .sh (p.labels.map encP),.sl .sh (p.sel.map encM),.sl .sh (p.tols.map encL),.str p.key,.int .i64 p.most,.str p.node,.bool p.hold])<|.yes (show(y==p.name)=true from(by simpa using h))<|.load (lB false 1 ζ1 1 2 (.sl (skF on) (on.map encJ)) [lo,hi,.sl (skF on) (on.map encJ)])<|.idx hwi<|.load (rfl:loadA false 1 ζ1 (.ref [.int .i64 w])=some (.int .i64 w))<|.bin inc<|.cutQ k6_3 [(4,.ptr 0 0),(9,.ptr 1 0),(11,.sl .sh L),(12,.int .i64 ↑n),(13,.int .i64 ↑i),(14,.ptr (ex.length+2) 0),(15,.int .i64 w),(16,.int .i64 ((↑(m+1):Int)-(1:Int))),(17,.sl .sh (List.map .str x)),(18,.int .i64 (↑(j+1):Int))] (ζ1) (fun T hT=>(ih' T hT)))
  ·have ih':=ih (j+1) hnx c (by rw[←he,show stepW w p.name (y::post) c=stepW w p.name post (if y=p.name then w else c)from rfl,if_neg h])
   exact let ζ1:Heap:={boxes:=[.sl .sh (s.nodes.map encN),.sl .sh (s.pods.map encPd),.sl .sh (s.buds.map encB)]::[lo,hi,.sl (skF on) (on.map encJ)]::(ex++[[AV.str p.name,.str p.owner,.int .i64 p.prio,.sl .sh (p.need.map encA),.sl .sh (p.labels.map encP),.sl .sh (p.sel.map encM),.sl .sh (p.tols.map encL),.str p.key,.int .i64 p.most,.str p.node,.bool p.hold]]),toks:=tk,loops:=[]:Heap};gG 160 _ hT (.len (lM .sh .str x)<|.yes (dT ((↑j:Int)<(↑x.length:Int)))<|.idx hyi<|.load (rfl:loadA false 1 ζ1 (.ref [.str y])=some (.str y))<|.load (lB false 1 ζ1 (ex.length+2) 0 (.str p.name) [.str p.name,.str p.owner,.int .i64 p.prio,.sl .sh (p.need.map encA),.sl .sh (p.labels.map encP),.sl .sh (p.sel.map encM),.sl .sh (p.tols.map encL),.str p.key,.int .i64 p.most,.str p.node,.bool p.hold])<|.no (show(y==p.name)=false from Bool.eq_false_iff.2 (by simpa using h))<|.bin inc<|.cutQ k6_3 [(4,.ptr 0 0),(9,.ptr 1 0),(11,.sl .sh L),(12,.int .i64 ↑n),(13,.int .i64 ↑i),(14,.ptr (ex.length+2) 0),(15,.int .i64 c),(16,.int .i64 ((↑(m+1):Int)-(1:Int))),(17,.sl .sh (List.map .str x)),(18,.int .i64 (↑(j+1):Int))] (ζ1) (fun T hT=>(ih' T hT)))
def cntF(nm:List UInt8):List Fnd→Nat→Nat
 |[],c=>c
 |f::l,c=>cntF nm l (if f.1=nm then c+1 else c)
theorem cntF_eq(nm:List UInt8):∀(l:List Fnd)(c:Nat),cntF nm l c=c+gotF l nm
 |[],c=>rfl
 |f::l,c=>by
  rw[cntF,cntF_eq nm l]
  unfold gotF
  rw[List.filter_cons]
  by_cases h:f.1=nm
  ·rw[if_pos h,if_pos (by simpa using h),List.length_cons];omega
  ·rw[if_neg h,if_neg (by simpa using h)]
theorem so_got(s:St)(hs:s.pods.length≤1000)(C:List AV)(tk:List Nat)(L:List Fnd)(hL:L.length≤100000)(n:Nat)(hn:n≤1000000)(i:Nat)(hi:i<s.pods.length)(p:Pod)(ex:List (List AV))(why:Int)(hwhy:∀f∈L,f.1=p.name→f.2=why)(g:Nat)(hg:g=gotF L p.name)(hg1:g≤1)(hgw:(g=1)↔0<why)(R:ARes×Heap→Prop)
 (K:∀(T:Env),Has T [(4,.ptr 0 0),(9,.ptr 1 0),(11,.sl .sh (L.map encFd)),(12,.int .i64 ((n+g:Nat):Int)),(13,.int .i64 ((i+1:Nat):Int))]→Goes cfg a6 k6_1 T ⟨(encSt s).cells::C::(ex++[(encPd p).cells]),tk,[]⟩ R):
 ∀(post:List Fnd)(j:Nat)(hd:L.drop j=post)(c:Nat)(hc:c≤1)(he:cntF p.name post c=g)(T:Env)
 (hT:Has T [(4,.ptr 0 0),(9,.ptr 1 0),(11,.sl .sh (L.map encFd)),(12,.int .i64 (n:Nat)),(13,.int .i64 i),(14,.ptr (ex.length+2) 0),(15,.int .i64 why),(19,.int .i64 (c:Nat)),(20,.int .i64 j)]),
 Goes cfg a6 k6_4 T ⟨(encSt s).cells::C::(ex++[(encPd p).cells]),tk,[]⟩ R:=by
 intro post
 have inci:=inc_i (i:=i) (by omega)
 induction post with
 |nil=>
  intro j hd c hc he T hT
  have hge:=drop_ge hd
  have hcg:c=g:=he
  subst hcg
  have k:=K
  have ad:binA .add (.int .i64 (n:Int)) (.int .i64 (c:Int))=some (.int .i64 ((n+c:Nat):Int)):=by
   rw[addI (by omega) (by omega)];congr 2
  by_cases h1:c=1
  ·have hw:=hgw.1 h1
   exact gG 160 _ hT (.len (lM .sh encFd L)<|.no (dF ((↑j:Int)<(↑L.length:Int)))<|.no (dF ((1:Int)<(↑c:Int)))<|.no (show(if true=true then !((↑c:Int)==(1:Int))==decide ((0:Int)<why)else((↑c:Int)==(1:Int))==decide ((0:Int)<why))=false from Bool.eq_false_iff.2 (by simp[h1,hw]))<|.bin ad<|.bin inci<|.cutQ k6_1 [(4,.ptr 0 0),(9,.ptr 1 0),(11,.sl .sh (L.map encFd)),(12,.int .i64 (↑(n+c):Int)),(13,.int .i64 (↑(i+1)))] ({boxes:=[.sl .sh (s.nodes.map encN),.sl .sh (s.pods.map encPd),.sl .sh (s.buds.map encB)]::C::(ex++[[AV.str p.name,.str p.owner,.int .i64 p.prio,.sl .sh (p.need.map encA),.sl .sh (p.labels.map encP),.sl .sh (p.sel.map encM),.sl .sh (p.tols.map encL),.str p.key,.int .i64 p.most,.str p.node,.bool p.hold]]),toks:=tk,loops:=[]:Heap}) (fun T hT=>(k T hT)))
  ·have h0:c=0:=by omega
   have hw:¬0<why:=fun h=>h1 (hgw.2 h)
   exact gG 160 _ hT (.len (lM .sh encFd L)<|.no (dF ((↑j:Int)<(↑L.length:Int)))<|.no (dF ((1:Int)<(↑c:Int)))<|.no (show(if true=true then !((↑c:Int)==(1:Int))==decide ((0:Int)<why)else((↑c:Int)==(1:Int))==decide ((0:Int)<why))=false from Bool.eq_false_iff.2 (by simp[h0,hw]))<|.bin ad<|.bin inci<|.cutQ k6_1 [(4,.ptr 0 0),(9,.ptr 1 0),(11,.sl .sh (L.map encFd)),(12,.int .i64 (↑(n+c):Int)),(13,.int .i64 (↑(i+1)))] ({boxes:=[.sl .sh (s.nodes.map encN),.sl .sh (s.pods.map encPd),.sl .sh (s.buds.map encB)]::C::(ex++[[AV.str p.name,.str p.owner,.int .i64 p.prio,.sl .sh (p.need.map encA),.sl .sh (p.labels.map encP),.sl .sh (p.sel.map encM),.sl .sh (p.tols.map encL),.str p.key,.int .i64 p.most,.str p.node,.bool p.hold]]),toks:=tk,loops:=[]:Heap}) (fun T hT=>(k T hT)))
 |cons f post ih=>
  intro j hd c hc he T hT
  have hlt:=drop_lt hd
  have hnx:=drop_next hd
  have hfi:idxA 2 (.sl .sh (L.map encFd)) (.int .i64 (j:Nat))=some (.ref [.str f.1,.int .i64 f.2]):=idx_row (f:=encFd) hd rfl
  have inc:=inc_i (i:=j) (by omega)
  have ac:=add_n (c:=c) (by omega)
  have he':cntF p.name post (if f.1=p.name then c+1 else c)=g:=he
  by_cases h:f.1=p.name
  ·have hq:=hwhy f (drop_mem hd) h
   rw[if_pos h]at he'
   have hc0:c=0:=by
    have:=cntF_eq p.name post (c+1)
    omega
   have ih':=ih (j+1) hnx (c+1) (by omega) he'
   exact let ζ1:Heap:={boxes:=[.sl .sh (s.nodes.map encN),.sl .sh (s.pods.map encPd),.sl .sh (s.buds.map encB)]::C::(ex++[[AV.str p.name,.str p.owner,.int .i64 p.prio,.sl .sh (p.need.map encA),.sl .sh (p.labels.map encP),.sl .sh (p.sel.map encM),.sl .sh (p.tols.map encL),.str p.key,.int .i64 p.most,.str p.node,.bool p.hold]]),toks:=tk,loops:=[]:Heap};gG 200 _ hT (.len (lM .sh encFd L)<|.yes (dT ((↑j:Int)<(↑L.length:Int)))<|.idx hfi<|.load (rfl:loadA false 1 ζ1 (.ref [.str f.fst])=some (.str f.fst))<|.load (lB false 1 ζ1 (ex.length+2) 0 (.str p.name) [.str p.name,.str p.owner,.int .i64 p.prio,.sl .sh (p.need.map encA),.sl .sh (p.labels.map encP),.sl .sh (p.sel.map encM),.sl .sh (p.tols.map encL),.str p.key,.int .i64 p.most,.str p.node,.bool p.hold])<|.yes (show(f.fst==p.name)=true from(by simpa using h))<|.bin ac<|.idx hfi<|.load (rfl:loadA false 1 ζ1 (.ref [.int .i64 f.snd])=some (.int .i64 f.snd))<|.no (show(f.snd !=why)=false from Bool.eq_false_iff.2 (by simp+zetaDelta [hq]))<|.bin inc<|.cutQ k6_4 [(4,.ptr 0 0),(9,.ptr 1 0),(11,.sl .sh (L.map encFd)),(12,.int .i64 ↑n),(13,.int .i64 ↑i),(14,.ptr (ex.length+2) 0),(15,.int .i64 why),(19,.int .i64 (↑(c+1):Int)),(20,.int .i64 (↑(j+1):Int))] (ζ1) (fun T hT=>(ih' T hT)))
  ·rw[if_neg h]at he'
   have ih':=ih (j+1) hnx c hc he'
   exact let ζ1:Heap:={boxes:=[.sl .sh (s.nodes.map encN),.sl .sh (s.pods.map encPd),.sl .sh (s.buds.map encB)]::C::(ex++[[AV.str p.name,.str p.owner,.int .i64 p.prio,.sl .sh (p.need.map encA),.sl .sh (p.labels.map encP),.sl .sh (p.sel.map encM),.sl .sh (p.tols.map encL),.str p.key,.int .i64 p.most,.str p.node,.bool p.hold]]),toks:=tk,loops:=[]:Heap};gG 200 _ hT (.len (lM .sh encFd L)<|.yes (dT ((↑j:Int)<(↑L.length:Int)))<|.idx hfi<|.load (rfl:loadA false 1 ζ1 (.ref [.str f.fst])=some (.str f.fst))<|.load (lB false 1 ζ1 (ex.length+2) 0 (.str p.name) [.str p.name,.str p.owner,.int .i64 p.prio,.sl .sh (p.need.map encA),.sl .sh (p.labels.map encP),.sl .sh (p.sel.map encM),.sl .sh (p.tols.map encL),.str p.key,.int .i64 p.most,.str p.node,.bool p.hold])<|.no (show(f.fst==p.name)=false from Bool.eq_false_iff.2 (by simpa using h))<|.bin inc<|.cutQ k6_4 [(4,.ptr 0 0),(9,.ptr 1 0),(11,.sl .sh (L.map encFd)),(12,.int .i64 ↑n),(13,.int .i64 ↑i),(14,.ptr (ex.length+2) 0),(15,.int .i64 why),(19,.int .i64 ↑c),(20,.int .i64 (↑(j+1):Int))] (ζ1) (fun T hT=>(ih' T hT)))
structure OnK(on:List Int):Prop where
 len:on.length=5
 pos:∀w∈on,0<w
theorem so_strat(s:St)(b:StB s)(hs:srtP s.pods){lo hi:AV}(hl:Fl lo)(hh:Fl hi)(on:List Int)(ho:OnK on)(tk:List Nat)(n:Nat)(hn:n≤200000)(i:Nat)(p:Pod)(hp:s.pods[i]?=some p)(ex:List (List AV))(R:ARes×Heap→Prop)(hL:(alF s lo hi [] on).length≤100000)
 (K:∀(T:Env),Has T [(4,.ptr 0 0),(9,.ptr 1 0),(11,.sl .sh ((alF s lo hi [] on).map encFd)),(12,.int .i64 ((n+gotF (alF s lo hi [] on) p.name:Nat):Int)),(13,.int .i64 ((i+1:Nat):Int))]→Goes cfg a6 k6_1 T ⟨(encSt s).cells::[lo,hi,.sl (skF on) (on.map encJ)]::(ex++[(encPd p).cells]),tk,[]⟩ R):
 ∀(m:Nat)(hm:m≤on.length)(T:Env)
 (hT:Has T [(4,.ptr 0 0),(9,.ptr 1 0),(11,.sl .sh ((alF s lo hi [] on).map encFd)),(12,.int .i64 (n:Nat)),(13,.int .i64 i),(14,.ptr (ex.length+2) 0),(15,.int .i64 (fstW s lo hi p.name (on.drop m))),(16,.int .i64 ((m:Int)-1))]),
 Goes cfg a6 k6_2 T ⟨(encSt s).cells::[lo,hi,.sl (skF on) (on.map encJ)]::(ex++[(encPd p).cells]),tk,[]⟩ R:=by
 haveI:=hl.C
 haveI:=hh.C
 have hil:=(List.getElem?_eq_some_iff.1 hp).1
 have hpm:p∈s.pods:=List.mem_of_getElem? hp
 have hpl:=b.ins.pods
 intro m
 induction m with
 |zero=>
  intro hm T hT
  have hnd:=alF_nodup (s:=s) (lo:=lo) (hi:=hi) on (out:=[]) (by simp)
  have hg:=got_one (nm:=p.name) hnd
  have hmem:=alF_mem (s:=s) (lo:=lo) (hi:=hi) (nm:=p.name) on (out:=[])
  have hz:=fstW_zero (s:=s) (lo:=lo) (hi:=hi) (nm:=p.name) (l:=on) ho.pos
  rw[List.drop_zero]at hT
  have hwhy:∀f∈alF s lo hi [] on,f.1=p.name→f.2=fstW s lo hi p.name on:=fun f hf e=>by
   obtain⟨f1,f2⟩:=f
   simp only at e
   subst e
   exact alF_why on (by simp) hf
  have hgw:(gotF (alF s lo hi [] on) p.name=1)↔0<fstW s lo hi p.name on:=by
   rw[hz,hg]
   have:(p.name∈(alF s lo hi [] on).map (·.1))↔∃w∈on,p.name∈oneS s lo hi w:=by rw[hmem];simp
   rw[←this]
   split<;>simp_all
  have hbad:0<fstW s lo hi p.name on→p.hold=false∧¬p.node=[]:=fun h=>by
   obtain⟨w,-,hw⟩:=hz.1 h
   constructor
   ·cases e:p.hold with
    |false=>rfl
    |true=>exact absurd hw (one_not hs hpm (.inl e) w)
   ·intro e
    exact absurd hw (one_not hs hpm (.inr e) w)
  have hg1:gotF (alF s lo hi [] on) p.name≤1:=by rw[hg];split<;>omega
  have got:=so_got s hpl [lo,hi,.sl (skF on) (on.map encJ)] tk (alF s lo hi [] on) hL n (by omega) i hil p ex (fstW s lo hi p.name on) hwhy _ rfl hg1 hgw R K (alF s lo hi [] on) 0 rfl 0 (by omega) (by rw[cntF_eq];omega)
  generalize gotF (alF s lo hi [] on) p.name=gg at*
  generalize fstW s lo hi p.name on=why at*
  generalize alF s lo hi [] on=L at*
  by_cases h:0<why
  ·obtain⟨h1,h2⟩:=hbad h
   exact let ζ1:List AV:=[.str p.name,.str p.owner,.int .i64 p.prio,.sl .sh (p.need.map encA),.sl .sh (p.labels.map encP),.sl .sh (p.sel.map encM),.sl .sh (p.tols.map encL),.str p.key,.int .i64 p.most,.str p.node,.bool p.hold];let ζ2:Heap:={boxes:=[.sl .sh (s.nodes.map encN),.sl .sh (s.pods.map encPd),.sl .sh (s.buds.map encB)]::[lo,hi,.sl (skF on) (on.map encJ)]::(ex++[ζ1]),toks:=tk,loops:=[]:Heap};gG 160 _ hT (.ff<|.yes (dT ((0:Int)<why))<|.load (lB false 1 ζ2 (ex.length+2) 10 (.bool p.hold) ζ1)<|.no (show(p.hold)=false from Bool.eq_false_iff.2 (by simp+zetaDelta [h1]))<|.load (lB false 1 ζ2 (ex.length+2) 9 (.str p.node) ζ1)<|.no (show(p.node==[])=false from Bool.eq_false_iff.2 (by simpa using h2))<|.cutQ k6_4 [(4,.ptr 0 0),(9,.ptr 1 0),(11,.sl .sh (L.map encFd)),(12,.int .i64 ↑n),(13,.int .i64 ↑i),(14,.ptr (ex.length+2) 0),(15,.int .i64 why),(19,.int .i64 0),(20,.int .i64 0)] (ζ2) (fun T hT=>(got T hT)))
  ·exact gG 160 _ hT (.ff<|.no (dF ((0:Int)<why))<|.ff<|.cutQ k6_4 [(4,.ptr 0 0),(9,.ptr 1 0),(11,.sl .sh (L.map encFd)),(12,.int .i64 ↑n),(13,.int .i64 ↑i),(14,.ptr (ex.length+2) 0),(15,.int .i64 why),(19,.int .i64 0),(20,.int .i64 0)] ({boxes:=[.sl .sh (s.nodes.map encN),.sl .sh (s.pods.map encPd),.sl .sh (s.buds.map encB)]::[lo,hi,.sl (skF on) (on.map encJ)]::(ex++[[AV.str p.name,.str p.owner,.int .i64 p.prio,.sl .sh (p.need.map encA),.sl .sh (p.labels.map encP),.sl .sh (p.sel.map encM),.sl .sh (p.tols.map encL),.str p.key,.int .i64 p.most,.str p.node,.bool p.hold]]),toks:=tk,loops:=[]:Heap}) (fun T hT=>(got T hT)))
 |succ m ih=>
  intro hm T hT
  obtain⟨w,hw⟩:∃w,on[m]?=some w:=⟨on[m]'(by omega),List.getElem?_eq_getElem (by omega)⟩
  have hd:on.drop m=w::on.drop (m+1):=by
   obtain⟨h1,rfl⟩:=List.getElem?_eq_some_iff.1 hw
   exact List.drop_eq_getElem_cons h1
  have hwi:idxA 1 (.sl (skF on) (on.map encJ)) (.int .i64 (((m+1:Nat):Int)-1))=some (.ref [.int .i64 w]):=by
   rw[show(((m+1:Nat):Int)-1)=(m:Nat)by omega]
   exact idx_get (f:=encJ) hw rfl
  have o:=one_any s b hl hh w
  have ol:=oneS_len s lo hi w
  have hon:=ho.len
  have e:stepW w p.name (oneS s lo hi w) (fstW s lo hi p.name (on.drop (m+1)))=fstW s lo hi p.name (on.drop m):=by rw[stepW_eq,hd,fstW]
  have inn:=so_names s on hon lo hi tk ((alF s lo hi [] on).map encFd) n i p ex m w hw (oneS s lo hi w) (by omega) (fstW s lo hi p.name (on.drop (m+1))) R (fun T hT=>ih (by omega) T (by rw[e]at hT;exact hT)) (oneS s lo hi w) 0 rfl (fstW s lo hi p.name (on.drop (m+1))) rfl
  generalize fstW s lo hi p.name (on.drop (m+1))=c at*
  generalize oneS s lo hi w=x at*
  generalize alF s lo hi [] on=L at*
  exact let ζ2:List AV:=[.sl .sh (s.nodes.map encN),.sl .sh (s.pods.map encPd),.sl .sh (s.buds.map encB)];let ζ1:Heap:={boxes:=ζ2::[lo,hi,.sl (skF on) (on.map encJ)]::(ex++[[AV.str p.name,.str p.owner,.int .i64 p.prio,.sl .sh (p.need.map encA),.sl .sh (p.labels.map encP),.sl .sh (p.sel.map encM),.sl .sh (p.tols.map encL),.str p.key,.int .i64 p.most,.str p.node,.bool p.hold]]),toks:=tk,loops:=[]:Heap};gG 160 _ hT (.yes (dT ((0:Int)≤(↑(m+1):Int)-(1:Int)))<|.load (lB true 3 ζ1 0 0 (.agg ζ2) ζ2)<|.load (lB false 1 ζ1 1 2 (.sl (skF on) (on.map encJ)) [lo,hi,.sl (skF on) (on.map encJ)])<|.idx hwi<|.load (rfl:loadA false 1 ζ1 (.ref [.int .i64 w])=some (.int .i64 w))<|.load (lB true 2 ζ1 1 0 (.agg [lo,hi]) [lo,hi,.sl (skF on) (on.map encJ)])<|.callG ([.agg ζ2,.int .i64 w,.agg [lo,hi]]) (.sl .sh (List.map .str x)) o Shuts.p Res.p<|.cutQ k6_3 [(4,.ptr 0 0),(9,.ptr 1 0),(11,.sl .sh (L.map encFd)),(12,.int .i64 ↑n),(13,.int .i64 ↑i),(14,.ptr (ex.length+2) 0),(15,.int .i64 c),(16,.int .i64 ((↑(m+1):Int)-(1:Int))),(17,.sl .sh (List.map .str x)),(18,.int .i64 0)] (ζ1) (fun T hT=>(inn T hT)))
theorem so_pods(s:St)(b:StB s)(hs:srtP s.pods){lo hi:AV}(hl:Fl lo)(hh:Fl hi)(on:List Int)(ho:OnK on)(tk:List Nat)(hL:(alF s lo hi [] on).length≤100000):
 ∀(post:List Pod)(i:Nat)(hd:s.pods.drop i=post)(hi2:i≤s.pods.length)(n:Nat)(hn:n≤i)(he:n+sumN (post.map fun p=>gotF (alF s lo hi [] on) p.name)=(alF s lo hi [] on).length)(ex:List (List AV))(T:Env)
 (hT:Has T [(4,.ptr 0 0),(9,.ptr 1 0),(11,.sl .sh ((alF s lo hi [] on).map encFd)),(12,.int .i64 (n:Nat)),(13,.int .i64 i)]),
 Goes cfg a6 k6_1 T ⟨(encSt s).cells::[lo,hi,.sl (skF on) (on.map encJ)]::ex,tk,[]⟩ (IsRet (.bool true)):=by
 have hpl:=b.ins.pods
 intro post
 induction post with
 |nil=>
  intro i hd hi2 n hn he ex T hT
  have hge:=drop_ge hd
  have he':n=(alF s lo hi [] on).length:=by simpa[sumN]using he
  generalize alF s lo hi [] on=L at*
  subst he'
  exact let ζ1:List AV:=[.sl .sh (s.nodes.map encN),.sl .sh (s.pods.map encPd),.sl .sh (s.buds.map encB)];let ζ2:Heap:={boxes:=ζ1::[lo,hi,.sl (skF on) (on.map encJ)]::ex,toks:=tk,loops:=[]:Heap};gG 160 _ hT (.load (lB false 1 ζ2 0 1 (.sl .sh (s.pods.map encPd)) ζ1)<|.len (lM .sh encPd s.pods)<|.no (dF ((↑i:Int)<(↑s.pods.length:Int)))<|.len (lM .sh encFd L)<|.fin ((.ret (.bool ((↑L.length:Int)==(↑L.length:Int))),ζ2)) (by exact ret_b (by simp+zetaDelta)))
 |cons x post ih=>
  intro i hd hi2 n hn he ex T hT
  have hlt:=drop_lt hd
  have hnx:=drop_next hd
  have hon:=ho.len
  have hxi:idxA 11 (.sl .sh (s.pods.map encPd)) (.int .i64 (i:Nat))=some (.ref (encPd x).cells):=idx_row (f:=encPd) hd rfl
  have he':n+(gotF (alF s lo hi [] on) x.name+sumN (post.map fun p=>gotF (alF s lo hi [] on) p.name))=(alF s lo hi [] on).length:=he
  have hnd:=alF_nodup (s:=s) (lo:=lo) (hi:=hi) on (out:=[]) (by simp)
  have hg1:gotF (alF s lo hi [] on) x.name≤1:=by rw[got_one (nm:=x.name) hnd];split<;>omega
  have st:=so_strat s b hs hl hh on ho tk n (by omega) i x (drop_at hd) ex (IsRet (.bool true)) hL (fun T hT=>ih (i+1) hnx (by omega) (n+gotF (alF s lo hi [] on) x.name) (by omega) (by omega) (ex++[(encPd x).cells]) T hT) on.length (Nat.le_refl _)
  rw[List.drop_length]at st
  have st:∀T,Has T [(4,.ptr 0 0),(9,.ptr 1 0),(11,.sl .sh ((alF s lo hi [] on).map encFd)),(12,.int .i64 (n:Nat)),(13,.int .i64 i),(14,.ptr (ex.length+2) 0),(15,.int .i64 0),(16,.int .i64 ((on.length:Int)-1))]→Goes cfg a6 k6_2 T ⟨(encSt s).cells::[lo,hi,.sl (skF on) (on.map encJ)]::(ex++[(encPd x).cells]),tk,[]⟩ (IsRet (.bool true)):=st
  generalize alF s lo hi [] on=L at*
  exact let ζ1:List AV:=[.str x.name,.str x.owner,.int .i64 x.prio,.sl .sh (x.need.map encA),.sl .sh (x.labels.map encP),.sl .sh (x.sel.map encM),.sl .sh (x.tols.map encL),.str x.key,.int .i64 x.most,.str x.node,.bool x.hold];let ζ2:List AV:=[.sl .sh (s.nodes.map encN),.sl .sh (s.pods.map encPd),.sl .sh (s.buds.map encB)];let ζ3:Heap:={boxes:=ζ2::[lo,hi,.sl (skF on) (on.map encJ)]::(ex++[ζ1]),toks:=tk,loops:=[]:Heap};let ζ4:Heap:={boxes:=ζ2::[lo,hi,.sl (skF on) (on.map encJ)]::ex,toks:=tk,loops:=[]:Heap};let ζ5:List AV:=[.str [],.str [],.int .i64 0,.sl .full [],.sl .full [],.sl .full [],.sl .full [],.str [],.int .i64 0,.str [],.bool false];gG 160 _ hT (.load (lB false 1 ζ4 0 1 (.sl .sh (s.pods.map encPd)) ζ2)<|.len (lM .sh encPd s.pods)<|.yes (dT ((↑i:Int)<(↑s.pods.length:Int)))<|.load (lB false 1 ζ4 0 1 (.sl .sh (s.pods.map encPd)) ζ2)<|.idx hxi<|.load (rfl:loadA true 11 ζ4 (.ref ζ1)=some (.agg ζ1))<|.store (show storeA 11 {boxes:=ζ2::[lo,hi,.sl (skF on) (on.map encJ)]::(ex++[ζ5]),toks:=tk,loops:=[]:Heap} (.ptr (ζ2::[lo,hi,.sl (skF on) (on.map encJ)]::ex).length 0) (.agg ζ1)=some (ζ3)from store_box2 (cs:=ζ5) (cs':=ζ1) (by simp+zetaDelta) rfl (by simp+zetaDelta [List.set_append]))<|.load (lB false 1 ζ3 1 2 (.sl (skF on) (on.map encJ)) [lo,hi,.sl (skF on) (on.map encJ)])<|.len (lM (skF on) encJ on)<|.bin (show binA .sub (.int .i64 (↑on.length)) (.int .i64 1)=some (.int .i64 ((↑on.length:Int)-(1:Int)))from subI (by omega) (by omega))<|.cutQ k6_2 [(4,.ptr 0 0),(9,.ptr 1 0),(11,.sl .sh (L.map encFd)),(12,.int .i64 ↑n),(13,.int .i64 ↑i),(14,.ptr (ζ2::[lo,hi,.sl (skF on) (on.map encJ)]::ex).length 0),(15,.int .i64 0),(16,.int .i64 ((↑on.length:Int)-(1:Int)))] (ζ3) (fun T hT=>(st T hT)))
end Go.Aa.T
set_option linter.unusedVariables false
set_option linter.unusedSimpArgs false
set_option maxRecDepth 100000
namespace Go.Aa.T
open Go.Aa Go.Proofs
def wOn(t i:Nat):List Int:=(List.range i).map fun j=>((1+(j+t)%5:Nat):Int)
theorem wOn_succ(t i:Nat):wOn t (i+1)=wOn t i++[((1+(i+t)%5:Nat):Int)]:=by simp[wOn,List.range_succ]
theorem wOn_len(t i:Nat):(wOn t i).length=i:=by simp[wOn]
theorem rem_n{a:Nat}(h:a≤100000):binA .rem (.int .i64 (a:Int)) (.int .i64 5)=some (.int .i64 ((a%5:Nat):Int)):=by
 have e:Int.tmod (a:Int) 5=((a%5:Nat):Int):=by
  rw[Int.tmod_eq_emod_of_nonneg (by omega)];omega
 simp only[binA,if_true,intBin,e]
 rfl
theorem conv_8{n:Nat}(h:n<256):convA (.int .i64) (.int .u8 (n:Int))=some (.int .i64 (n:Int)):=by
 simp only[convA]
 rw[wrap_i64 (by omega) (by omega)]
theorem add_nn{a b:Nat}(h:a≤100000)(h2:b≤100000):binA .add (.int .i64 (a:Int)) (.int .i64 (b:Int))=some (.int .i64 ((a+b:Nat):Int)):=by
 rw[addI (by omega) (by omega)];simp
theorem add_1n{b:Nat}(h2:b≤100000):binA .add (.int .i64 1) (.int .i64 (b:Int))=some (.int .i64 ((1+b:Nat):Int)):=by
 rw[addI (by omega) (by omega)];simp
theorem ap_J{acc:List Int}(x:Int)(hn:acc.length≤100000)(bs:List (List AV))(ls:List LRec):
 appendA 1 8 ⟨bs,tkR encJ acc,ls⟩ (.sl (skF acc) (acc.map encJ)) (.sl .full [.int .i64 x])=some (.sl (skF (acc++[x])) ((acc++[x]).map encJ),⟨bs,tkR encJ (acc++[x]),ls⟩):=
 row_append_T encJ (x:=x) (by simp;omega) (lenOk_map fun _=>rfl) rfl rfl
theorem sto2{lo hi:AV}(S m r:List AV)(k q:SK)(tk:List Nat):Does cfg (.store 1 (.c (.ptr 1 2)) (.c (.sl k r))) ⟨[S,[lo,hi,.sl q m]],tk,[]⟩ .undef ⟨[S,[lo,hi,.sl k r]],tk,[]⟩:=fun T=>rfl
theorem on_ok(t:Nat):OnK (wOn t 5):=⟨wOn_len t 5,fun w hw=>by
 obtain⟨j,-,rfl⟩:=List.mem_map.1 hw
 omega⟩
theorem on_loop5(s:St)(fp:s.pods.length≤130)(b:StB s)(hs:srtP s.pods){lo hi:AV}(hl:Fl lo)(hh:Fl hi)(t:Nat)(ht:t<256):∀(m i:Nat)(hm:i+m=5)(T:Env)
 (hT:Has T [(3,.int .u8 (t:Nat)),(4,.ptr 0 0),(9,.ptr 1 0),(10,.int .i64 i)]),
 Goes cfg a6 k6_0 T ⟨[(encSt s).cells,[lo,hi,.sl (skF (wOn t i)) ((wOn t i).map encJ)]],tkR encJ (wOn t i),[]⟩ (IsRet (.bool true)):=by
 haveI:=hl.C
 haveI:=hh.C
 intro m
 induction m with
 |zero=>
  intro i hm T hT
  have hi5:i=5:=by omega
  subst hi5
  have ok:=on_ok t
  have hon:=ok.len
  have a:=all_fd s b hl hh (wOn t 5) (by omega)
  have al:=alF_len s lo hi (wOn t 5) []
  rw[hon,List.length_nil]at al
  have hsum:=got_sum (lo:=lo) (hi:=hi) hs (wOn t 5)
  have lo':=so_pods s b hs hl hh (wOn t 5) ok (tkR encJ (wOn t 5)) (by omega) s.pods 0 rfl (by omega) 0 (by omega) (by rw[hsum];omega) []
  generalize alF s lo hi [] (wOn t 5)=L at*
  generalize wOn t 5=on at*
  exact let ζ1:List AV:=[.sl .sh (s.nodes.map encN),.sl .sh (s.pods.map encPd),.sl .sh (s.buds.map encB)];gG 160 _ hT (.ff<|.callG ([.agg ζ1,.agg [lo,hi,.sl (skF on) (on.map encJ)]]) (.sl .sh (L.map encFd)) a Shuts.p Res.p<|.cutQ k6_1 [(4,.ptr 0 0),(9,.ptr 1 0),(11,.sl .sh (L.map encFd)),(12,.int .i64 0),(13,.int .i64 0)] ({boxes:=[ζ1,[lo,hi,.sl (skF on) (on.map encJ)]],toks:=tkR encJ on,loops:=[]:Heap}) (fun T hT=>(lo' T hT)))
 |succ m ih=>
  intro i hm T hT
  have ih':=ih (i+1) (by omega)
  rw[wOn_succ]at ih'
  have c8:=conv_8 ht
  have a1:=add_nn (a:=i) (b:=t) (by omega) (by omega)
  have r1:=rem_n (a:=i+t) (by omega)
  have a2:=add_1n (b:=(i+t)%5) (by omega)
  have ap:=ap_J (acc:=wOn t i) ((1+(i+t)%5:Nat):Int) (by rw[wOn_len];omega)
  have st:=sto2 (lo:=lo) (hi:=hi) (encSt s).cells ((wOn t i).map encJ) ((wOn t i++[((1+(i+t)%5:Nat):Int)]).map encJ) (skF (wOn t i++[((1+(i+t)%5:Nat):Int)])) (skF (wOn t i)) (tkR encJ (wOn t i++[((1+(i+t)%5:Nat):Int)]))
  have inc:=inc_i (i:=i) (by omega)
  generalize wOn t i=acc at*
  generalize(i+t)%5=q at*
  exact let ζ1:List AV:=[.sl .sh (s.nodes.map encN),.sl .sh (s.pods.map encPd),.sl .sh (s.buds.map encB)];gG 160 _ hT (.yes (dT ((↑i:Int)<(5:Int)))<|.conv c8<|.bin a1<|.bin r1<|.bin a2<|.append (show appendA 1 8 {boxes:=[ζ1,[lo,hi,.sl (skF acc) (acc.map encJ)]],toks:=tkR encJ acc,loops:=[]:Heap} (.sl (skF acc) (acc.map encJ)) (.sl .full [.int .i64 (↑(1+q):Int)])=some ((.sl (skF (acc++[(↑(1+q):Int)])) (List.map encJ (acc++[(↑(1+q):Int)])),{boxes:=[ζ1,[lo,hi,.sl (skF acc) (acc.map encJ)]],toks:=tkR encJ (acc++[(↑(1+q):Int)]),loops:=[]:Heap}))from ap _ _)<|.effY st<|.bin inc<|.cutQ k6_0 [(3,.int .u8 ↑t),(4,.ptr 0 0),(9,.ptr 1 0),(10,.int .i64 (↑(i+1)))] ({boxes:=[ζ1,[lo,hi,.sl (skF (acc++[(↑(1+q):Int)])) (List.map encJ (acc++[(↑(1+q):Int)]))]],toks:=tkR encJ (acc++[(↑(1+q):Int)]),loops:=[]:Heap}) (fun T hT=>(ih' T hT)))
theorem stoE{lo hi:AV}(hl:Fl lo)(hh:Fl hi)(S:List AV):Does cfg (.store 3 (.c (.ptr 1 0)) (.c (.agg [lo,hi,.sl .full []]))) ⟨[S,[.flt 0,.flt 0,.sl .full []]],[],[]⟩ .undef ⟨[S,[lo,hi,.sl .full []]],[],[]⟩:=fun T=>by
 cases hl<;>cases hh<;>rfl
theorem stratOnce(s:St)(r:RgS s){lo hi:AV}(hl:Fl lo)(hh:Fl hi)(t:Nat)(ht:t<256):Gives cfg 6 [encSt s,lo,hi,.int .u8 (t:Int)] (.bool true):=by
 haveI:=hl.C
 haveI:=hh.C
 refine Gives.run (l6 _ _) ?_
 have g:=good_any s r
 cases hg:(fewSt s&&ckSt s==0)with
 |false=>
  rw[hg]at g
  exact let ζ1:List AV:=[.sl .sh (s.nodes.map encN),.sl .sh (s.pods.map encPd),.sl .sh (s.buds.map encB)];gG 90 [] trivial (.callK ([]) (.bool true) known25'<|.ff<|.callK ([.agg ζ1]) (.bool false) g<|.tt<|.fin ((.ret (.bool true),{boxes:=[ζ1],toks:=[],loops:=[]:Heap})) rfl)
 |true=>
  rw[hg]at g
  simp only[Bool.and_eq_true,beq_iff_eq]at hg
  obtain⟨hg1,hg2⟩:=hg
  have fs:=fewS hg1
  have b:=stB fs r
  have lo':=on_loop5 s fs.pods b (ck_srt hg2) hl hh t ht 5 0 (by omega)
  have e0:wOn t 0=[]:=rfl
  rw[e0,show(AV.sl (skF ([]:List Int)) (([]:List Int).map encJ))=.sl .full []from rfl,tk_nil]at lo'
  have b1:=bldF hl hh
  have st:=stoE hl hh (encSt s).cells
  exact let ζ1:List AV:=[.sl .sh (s.nodes.map encN),.sl .sh (s.pods.map encPd),.sl .sh (s.buds.map encB)];let ζ2:Heap:={boxes:=[ζ1],toks:=[],loops:=[]:Heap};gG 200 [] trivial (.callK ([]) (.bool true) known25'<|.ff<|.callK ([.agg ζ1]) (.bool true) g<|.ff<|.effY (show Does cfg (.build [AV.flt 0,AV.flt 0] [(0,1,.c lo),(1,1,.c hi)]) ζ2 (.agg [lo,hi]) ζ2 from b1 _)<|.effY st<|.cutQ k6_0 [(3,.int .u8 ↑t),(4,.ptr 0 0),(9,.ptr 1 0),(10,.int .i64 0)] ({boxes:=[ζ1,[lo,hi,.sl .full []]],toks:=[],loops:=[]:Heap}) (fun T hT=>(lo' T hT)))
end Go.Aa.T
set_option linter.unusedVariables false
set_option linter.unusedSimpArgs false
set_option maxRecDepth 100000
namespace Go.Aa.T
open Go.Aa Go.Proofs
theorem law6(xs:List AV)(h:TyAll Tryz.prog 6 [26,27,27,5] xs)(hz:SzAll Tryz.prog [26,27,27,5] xs):∃H',lim cfg (.fn 6) xs Heap.nil=some (.ret (.bool true),H'):=by
 obtain⟨x1,x2,x3,x4,rfl,h1,h2,h3,h4⟩:=tyall_4 h
 obtain⟨a,rfl,r,-⟩:=ty26 (k:=0) h1
 obtain⟨n,hn,rfl⟩:=tyU8 h4
 exact(stratOnce a r (tyFl h2) (tyFl h3) n hn).ret
end Go.Aa.T
namespace Go.Proofs
open Go.Shelf
def Tryz.lays160_ren:Go.Shelf.Ren:=⟨fun|160=>279|232=>302|231=>301|227=>303|234=>305|233=>304|236=>307|235=>306|228=>321|271=>323|151=>322|197=>298|120=>328|152=>327|260=>316|137=>329|119=>330|224=>319|225=>318|217=>317|266=>325|n=>n,fun|9=>9|4=>4|3=>3|5=>5|117=>359|116=>358|0=>0|124=>362|21=>21|105=>353|46=>329|119=>376|139=>379|138=>378|n=>n,fun|3=>2|4=>3|n=>n⟩
theorem Tryz.lays160:Go.Proofs.Lays.n160 Tryz.prog Tryz.lays160_ren:={
 mixed:=by kernel_rfl
 f119:=Tryz.func330.trans (congrArg some (by kernel_rfl))
 f120:=Tryz.func328.trans (congrArg some (by kernel_rfl))
 f137:=Tryz.func329.trans (congrArg some (by kernel_rfl))
 f151:=Tryz.func322.trans (congrArg some (by kernel_rfl))
 f152:=Tryz.func327.trans (congrArg some (by kernel_rfl))
 f160:=Tryz.func279.trans (congrArg some (by kernel_rfl))
 f197:=Tryz.func298.trans (congrArg some (by kernel_rfl))
 f217:=Tryz.func317.trans (congrArg some (by kernel_rfl))
 f224:=Tryz.func319.trans (congrArg some (by kernel_rfl))
 f225:=Tryz.func318.trans (congrArg some (by kernel_rfl))
 f227:=Tryz.func303.trans (congrArg some (by kernel_rfl))
 f228:=Tryz.func321.trans (congrArg some (by kernel_rfl))
 f231:=Tryz.func301.trans (congrArg some (by kernel_rfl))
 f232:=Tryz.func302.trans (congrArg some (by kernel_rfl))
 f233:=Tryz.func304.trans (congrArg some (by kernel_rfl))
 f234:=Tryz.func305.trans (congrArg some (by kernel_rfl))
 f235:=Tryz.func306.trans (congrArg some (by kernel_rfl))
 f236:=Tryz.func307.trans (congrArg some (by kernel_rfl))
 f260:=Tryz.func316.trans (congrArg some (by kernel_rfl))
 f266:=Tryz.func325.trans (congrArg some (by kernel_rfl))
 f271:=Tryz.func323.trans (congrArg some (by kernel_rfl))
 t0:=Tryz.underlying0
 a0:=Tryz.isAgg0
 z0:=Tryz.sizeOf0
 v0:=Tryz.zeroValue0
 t3:=Tryz.underlying3
 a3:=Tryz.isAgg3
 z3:=Tryz.sizeOf3
 v3:=Tryz.zeroValue3
 t4:=Tryz.underlying4
 a4:=Tryz.isAgg4
 z4:=Tryz.sizeOf4
 v4:=Tryz.zeroValue4
 t5:=Tryz.underlying5
 a5:=Tryz.isAgg5
 z5:=Tryz.sizeOf5
 v5:=Tryz.zeroValue5
 t9:=Tryz.underlying9
 a9:=Tryz.isAgg9
 z9:=Tryz.sizeOf9
 v9:=Tryz.zeroValue9
 t21:=Tryz.underlying21
 a21:=Tryz.isAgg21
 z21:=Tryz.sizeOf21
 v21:=Tryz.zeroValue21
 t46:=Tryz.underlying329
 a46:=Tryz.isAgg329
 z46:=Tryz.sizeOf329
 v46:=Tryz.zeroValue329
 t105:=Tryz.underlying353
 a105:=Tryz.isAgg353
 z105:=Tryz.sizeOf353
 v105:=Tryz.zeroValue353
 t116:=Tryz.underlying358
 a116:=Tryz.isAgg358
 z116:=Tryz.sizeOf358
 t117:=Tryz.underlying359
 a117:=Tryz.isAgg359
 z117:=Tryz.sizeOf359
 v117:=Tryz.zeroValue359
 t119:=Tryz.underlying376
 a119:=Tryz.isAgg376
 z119:=Tryz.sizeOf376
 t124:=Tryz.underlying362
 a124:=Tryz.isAgg362
 z124:=Tryz.sizeOf362
 v124:=Tryz.zeroValue362
 t138:=Tryz.underlying378
 a138:=Tryz.isAgg378
 z138:=Tryz.sizeOf378
 v138:=Tryz.zeroValue378
 t139:=Tryz.underlying379
 a139:=Tryz.isAgg379
 z139:=Tryz.sizeOf379
 v139:=Tryz.zeroValue379
 g3:=by kernel_rfl
 g4:=by kernel_rfl}
def Tryz.lays143_ren:Go.Shelf.Ren:=⟨fun|143=>278|219=>300|217=>317|225=>318|224=>319|267=>320|266=>325|314=>326|n=>n,fun|9=>9|3=>3|4=>4|5=>5|46=>329|146=>380|51=>350|n=>n,fun|1=>1|n=>n⟩
theorem Tryz.lays143:Go.Proofs.Lays.n143 Tryz.prog Tryz.lays143_ren:={
 mixed:=by kernel_rfl
 f143:=Tryz.func278.trans (congrArg some (by kernel_rfl))
 f217:=Tryz.func317.trans (congrArg some (by kernel_rfl))
 f219:=Tryz.func300.trans (congrArg some (by kernel_rfl))
 f224:=Tryz.func319.trans (congrArg some (by kernel_rfl))
 f225:=Tryz.func318.trans (congrArg some (by kernel_rfl))
 f266:=Tryz.func325.trans (congrArg some (by kernel_rfl))
 f267:=Tryz.func320.trans (congrArg some (by kernel_rfl))
 f314:=Tryz.func326.trans (congrArg some (by kernel_rfl))
 t3:=Tryz.underlying3
 a3:=Tryz.isAgg3
 z3:=Tryz.sizeOf3
 v3:=Tryz.zeroValue3
 t4:=Tryz.underlying4
 a4:=Tryz.isAgg4
 z4:=Tryz.sizeOf4
 v4:=Tryz.zeroValue4
 t5:=Tryz.underlying5
 a5:=Tryz.isAgg5
 z5:=Tryz.sizeOf5
 v5:=Tryz.zeroValue5
 t9:=Tryz.underlying9
 a9:=Tryz.isAgg9
 z9:=Tryz.sizeOf9
 v9:=Tryz.zeroValue9
 t46:=Tryz.underlying329
 a46:=Tryz.isAgg329
 z46:=Tryz.sizeOf329
 v46:=Tryz.zeroValue329
 t51:=Tryz.underlying350
 a51:=Tryz.isAgg350
 z51:=Tryz.sizeOf350
 v51:=Tryz.zeroValue350
 t146:=Tryz.underlying380
 a146:=Tryz.isAgg380
 z146:=Tryz.sizeOf380
 v146:=Tryz.zeroValue380
 g1:=by kernel_rfl}
def Tryz.lays138_ren:Go.Shelf.Ren:=⟨fun|138=>277|195=>297|218=>299|143=>278|219=>300|217=>317|225=>318|224=>319|267=>320|266=>325|314=>326|n=>n,fun|9=>9|3=>3|4=>4|5=>5|0=>0|46=>329|146=>380|51=>350|n=>n,fun|1=>1|n=>n⟩
theorem Tryz.lays138:Go.Proofs.Lays.n138 Tryz.prog Tryz.lays138_ren:={
 mixed:=by kernel_rfl
 f138:=Tryz.func277.trans (congrArg some (by kernel_rfl))
 f143:=Tryz.func278.trans (congrArg some (by kernel_rfl))
 f195:=Tryz.func297.trans (congrArg some (by kernel_rfl))
 f217:=Tryz.func317.trans (congrArg some (by kernel_rfl))
 f218:=Tryz.func299.trans (congrArg some (by kernel_rfl))
 f219:=Tryz.func300.trans (congrArg some (by kernel_rfl))
 f224:=Tryz.func319.trans (congrArg some (by kernel_rfl))
 f225:=Tryz.func318.trans (congrArg some (by kernel_rfl))
 f266:=Tryz.func325.trans (congrArg some (by kernel_rfl))
 f267:=Tryz.func320.trans (congrArg some (by kernel_rfl))
 f314:=Tryz.func326.trans (congrArg some (by kernel_rfl))
 t0:=Tryz.underlying0
 a0:=Tryz.isAgg0
 z0:=Tryz.sizeOf0
 v0:=Tryz.zeroValue0
 t3:=Tryz.underlying3
 a3:=Tryz.isAgg3
 z3:=Tryz.sizeOf3
 v3:=Tryz.zeroValue3
 t4:=Tryz.underlying4
 a4:=Tryz.isAgg4
 z4:=Tryz.sizeOf4
 v4:=Tryz.zeroValue4
 t5:=Tryz.underlying5
 a5:=Tryz.isAgg5
 z5:=Tryz.sizeOf5
 v5:=Tryz.zeroValue5
 t9:=Tryz.underlying9
 a9:=Tryz.isAgg9
 z9:=Tryz.sizeOf9
 v9:=Tryz.zeroValue9
 t46:=Tryz.underlying329
 a46:=Tryz.isAgg329
 z46:=Tryz.sizeOf329
 v46:=Tryz.zeroValue329
 t51:=Tryz.underlying350
 a51:=Tryz.isAgg350
 z51:=Tryz.sizeOf350
 v51:=Tryz.zeroValue350
 t146:=Tryz.underlying380
 a146:=Tryz.isAgg380
 z146:=Tryz.sizeOf380
 v146:=Tryz.zeroValue380
 g1:=by kernel_rfl}
def Tryz.lays190_ren:Go.Shelf.Ren:=⟨fun|190=>227|125=>271|258=>270|128=>295|129=>296|302=>286|303=>287|304=>288|305=>289|306=>290|307=>291|308=>292|309=>293|310=>294|333=>310|329=>311|330=>312|334=>313|335=>314|336=>315|344=>324|n=>n,fun|31=>66|9=>9|3=>3|46=>329|0=>0|51=>350|53=>268|4=>4|183=>343|182=>342|131=>157|5=>5|218=>364|222=>368|228=>373|229=>374|n=>n,fun|n=>n⟩
theorem Tryz.lays190:Go.Proofs.Lays.n190 Tryz.prog Tryz.lays190_ren:={
 mixed:=by kernel_rfl
 f125:=Tryz.func271.trans (congrArg some (by kernel_rfl))
 f128:=Tryz.func295.trans (congrArg some (by kernel_rfl))
 f129:=Tryz.func296.trans (congrArg some (by kernel_rfl))
 f190:=Tryz.func227.trans (congrArg some (by kernel_rfl))
 f258:=Tryz.func270.trans (congrArg some (by kernel_rfl))
 f302:=Tryz.func286.trans (congrArg some (by kernel_rfl))
 f303:=Tryz.func287.trans (congrArg some (by kernel_rfl))
 f304:=Tryz.func288.trans (congrArg some (by kernel_rfl))
 f305:=Tryz.func289.trans (congrArg some (by kernel_rfl))
 f306:=Tryz.func290.trans (congrArg some (by kernel_rfl))
 f307:=Tryz.func291.trans (congrArg some (by kernel_rfl))
 f308:=Tryz.func292.trans (congrArg some (by kernel_rfl))
 f309:=Tryz.func293.trans (congrArg some (by kernel_rfl))
 f310:=Tryz.func294.trans (congrArg some (by kernel_rfl))
 f329:=Tryz.func311.trans (congrArg some (by kernel_rfl))
 f330:=Tryz.func312.trans (congrArg some (by kernel_rfl))
 f333:=Tryz.func310.trans (congrArg some (by kernel_rfl))
 f334:=Tryz.func313.trans (congrArg some (by kernel_rfl))
 f335:=Tryz.func314.trans (congrArg some (by kernel_rfl))
 f336:=Tryz.func315.trans (congrArg some (by kernel_rfl))
 f344:=Tryz.func324.trans (congrArg some (by kernel_rfl))
 t0:=Tryz.underlying0
 a0:=Tryz.isAgg0
 z0:=Tryz.sizeOf0
 v0:=Tryz.zeroValue0
 t3:=Tryz.underlying3
 a3:=Tryz.isAgg3
 z3:=Tryz.sizeOf3
 v3:=Tryz.zeroValue3
 t4:=Tryz.underlying4
 a4:=Tryz.isAgg4
 z4:=Tryz.sizeOf4
 v4:=Tryz.zeroValue4
 t5:=Tryz.underlying5
 a5:=Tryz.isAgg5
 z5:=Tryz.sizeOf5
 v5:=Tryz.zeroValue5
 t9:=Tryz.underlying9
 a9:=Tryz.isAgg9
 z9:=Tryz.sizeOf9
 v9:=Tryz.zeroValue9
 t31:=Tryz.underlying66
 a31:=Tryz.isAgg66
 z31:=Tryz.sizeOf66
 v31:=Tryz.zeroValue66
 t46:=Tryz.underlying329
 a46:=Tryz.isAgg329
 z46:=Tryz.sizeOf329
 v46:=Tryz.zeroValue329
 t51:=Tryz.underlying350
 a51:=Tryz.isAgg350
 z51:=Tryz.sizeOf350
 v51:=Tryz.zeroValue350
 t53:=Tryz.underlying268
 a53:=Tryz.isAgg268
 z53:=Tryz.sizeOf268
 v53:=Tryz.zeroValue268
 t131:=Tryz.underlying157
 a131:=Tryz.isAgg157
 z131:=Tryz.sizeOf157
 v131:=Tryz.zeroValue157
 t182:=Tryz.underlying342
 a182:=Tryz.isAgg342
 z182:=Tryz.sizeOf342
 v182:=Tryz.zeroValue342
 t183:=Tryz.underlying343
 a183:=Tryz.isAgg343
 z183:=Tryz.sizeOf343
 v183:=Tryz.zeroValue343
 t218:=Tryz.underlying364
 a218:=Tryz.isAgg364
 z218:=Tryz.sizeOf364
 v218:=Tryz.zeroValue364
 t222:=Tryz.underlying368
 a222:=Tryz.isAgg368
 z222:=Tryz.sizeOf368
 v222:=Tryz.zeroValue368
 t228:=Tryz.underlying373
 a228:=Tryz.isAgg373
 z228:=Tryz.sizeOf373
 v228:=Tryz.zeroValue373
 t229:=Tryz.underlying374
 a229:=Tryz.isAgg374
 z229:=Tryz.sizeOf374
 v229:=Tryz.zeroValue374}
end Go.Proofs
set_option linter.unusedVariables false
set_option linter.unusedSimpArgs false
namespace Go.Aa
open Go.Proofs Go.RowKit
variable{P:Program}{G:Ghost}{w w':World}{H:Heap}
theorem ARep.app{u1 u2:List Value}{c1 c2:List AV}(h1:ARep G w u1 c1)(h2:ARep G w u2 c2):ARep G w (u1++u2) (c1++c2):=by
 refine⟨by simp[h1.1,h2.1],fun i i1 i2=> ?_⟩
 by_cases h:i<u1.length
 ·rw[List.getElem_append_left h,List.getElem_append_left (by rw[←h1.1];exact h)]
  exact h1.2 i h _
 ·rw[List.getElem_append_right (by omega),List.getElem_append_right (by rw[←h1.1];omega)]
  have:=h2.2 (i-u1.length) (by simp only[List.length_append]at i1;omega) (by have:=h1.1;simp only[List.length_append]at i2;omega)
  simp only[h1.1]at this⊢
  exact this
theorem ARep.tk{us:List Value}{cs:List AV}(o:Nat)(h:ARep G w us cs):ARep G w (us.take o) (cs.take o):=
 ⟨by simp[h.1],fun i i1 i2=>by simp only[List.getElem_take];exact h.2 i _ _⟩
end Go.Aa
namespace Go.Aa.T
open Go.Aa Go.Proofs Go.RowKit
set_option maxHeartbeats 4000000 in
set_option maxRecDepth 100000 in
theorem clone_nil(n c:Nat)(w:World):Calls Tryz.prog 152 #[.slice none n c] w fun e w'=>e=.returned (.slice none 0 0)∧w'=w:=by
 have q22:∀(w:World)(a:Option Addr)(n c n' c':Nat),(binOp .eql 23 (.slice a n c) (.slice none n' c')).run Tryz.prog w=.ok (.bool a.isNone) w:=fun w a n c n' c'=>Lib.run_eql_slice_nil w _ _ a n c n' c' Tryz.underlying23
 go_enter Tryz.func152,Tryz.ntmps152
 go_wp2
 go_ret
 exact⟨rfl,rfl⟩
set_option maxHeartbeats 4000000 in
set_option maxRecDepth 100000 in
theorem clone_some(a:Addr)(n c:Nat)(w:World)(r:Value)(w2:World)(hr:(Builtin.append_ #[23,23] 23 #[.slice (some ⟨w.heap.size,0,none⟩) 0 0,.slice (some a) n c]).run Tryz.prog (w.alloc (.cells #[] 81))=.ok r w2):
 Calls Tryz.prog 152 #[.slice (some a) n c] w fun e w'=>e=.returned r∧w'=w2:=by
 have q22:∀(w:World)(a:Option Addr)(n c n' c':Nat),(binOp .eql 23 (.slice a n c) (.slice none n' c')).run Tryz.prog w=.ok (.bool a.isNone) w:=fun w a n c n' c'=>Lib.run_eql_slice_nil w _ _ a n c n' c' Tryz.underlying23
 obtain⟨ab,ao,asp⟩:=a
 go_enter Tryz.func152,Tryz.ntmps152
 go_wp2_with(at_builtin;refine Lib.wpList_append_run _ rfl _ _ _ _ rfl _ _ rfl rfl _ _ hr ?_)
 go_ret
 exact⟨rfl,rfl⟩
theorem info_el:∃i z,Tryz.prog.info? 81=some i∧i.zero=some z∧z.cells.size=11∧i.size=11∧i.bytes=184:=by
 have h:((Tryz.prog.info? 81).any fun i=>i.zero.any (fun z=>z.cells.size==11)&&(i.size==11&&i.bytes==184))=true:=by kernel_rfl
 obtain⟨i,hi,h⟩:=(Option.any_eq_true _ _).1 h
 simp only[Bool.and_eq_true,beq_iff_eq]at h
 obtain⟨h,h2,h3⟩:=h
 obtain⟨z,hz,h⟩:=(Option.any_eq_true _ _).1 h
 exact⟨i,z,hi,hz,by simpa using h,h2,h3⟩
theorem ext_clone:ExtOk Tryz.prog 152 (cloneE 11 184):=by
 intro az H v H' hg G w vs hH hargs
 unfold cloneE at hg
 split at hg
 ·rename_i k l
  obtain⟨i,z,hi,hz,hzs,his,hib⟩:=info_el
  rw[←his,←hib]at hg
  obtain⟨u,rfl,hr⟩:=args_1 hargs
  have hu:∃b n c,u=.slice b n c:=by
   cases hr with
   |sl0 a c=>exact⟨_,_,_,rfl⟩
   |sl a c=>exact⟨_,_,_,rfl⟩
  obtain⟨b,n,c,rfl⟩:=hu
  cases b with
  |none=>
   refine .inl ⟨w,by kernel_rfl,(clone_nil n c w).mono fun e1 w' hh=> ?_,rfl⟩
   obtain⟨rfl,rfl⟩:=hh
   cases hr with
   |sl0 a c=>
    simp only[appendMA,Option.some.injEq,Prod.mk.injEq]at hg
    obtain⟨rfl,rfl⟩:=hg
    exact⟨G,.refl _ _,hH,_,rfl,.sl0 none 0 .nil (fun _=>rfl) (fun t e=>by cases e)⟩
  |some a=>
   have hg1:=Grow.alloc (w:=w) hH.base (.cells #[] 81) 0
   have hst:=hg1.step hH.base
   have hx:Rep (G.set w.heap.size 0) (w.alloc (.cells #[] 81)) (.slice (some ⟨w.heap.size,0,none⟩) 0 0) (.sl .full []):=.sl0 _ _ _ (fun _=>rfl) (fun t e=>by cases e)
   obtain⟨r,w2,G2,j1,j2,j3,j4⟩:=run_appendMA (ty:=23) (hH.grow hg1) hx (hr.step hst) hg Tryz.underlying23 Tryz.underlying23 hi hz (by rw[hzs,his]) (by rw[his];decide) (by rw[hib];decide)
   refine .inl ⟨w,by kernel_rfl,(clone_some a n c w r w2 j1).mono fun e1 w' hh=> ?_,rfl⟩
   obtain⟨rfl,rfl⟩:=hh
   exact⟨G2,hst.trans j2,j3,_,rfl,j4⟩
 ·cases hg
end Go.Aa.T
set_option linter.unusedVariables false
set_option linter.unusedSimpArgs false
set_option maxRecDepth 100000
namespace Go.Aa.T
open Go.Aa Go.Proofs Go.RowKit Go.Shelf
theorem cfgOk:CfgOk Tryz.prog cfg:=by
 refine⟨by kernel_rfl,fun f A h=>tab_fn h,fun f g h=> ?_,fun f h=> ?_⟩
 ·have h:extF f=some g:=h
  unfold extF at h
  split at h<;>simp only[Option.some.injEq,reduceCtorEq]at h<;>subst h
  ·exact ext_trim (fun _ _=>by kernel_rfl) fun s c w h1 h2 h3=>Any.strings_Trim_laid Tryz.lays160 (by kernel_rfl) s c w h1 h2 h3
  ·exact ext_sort (fun _ _=>by kernel_rfl) (fun a c w=>Any.slices_Sort_string_none Tryz.lays190 a c w) fun blk off cap ss w h1 h2 h3=>Any.slices_Sort_string Tryz.lays190 blk off cap ss w h1 h2 h3
  ·exact ext_index (fun _ _=>by kernel_rfl) fun s c w=>Any.strings_Index_one Tryz.lays143 s c w
  ·exact ext_count (fun _ _=>by kernel_rfl) fun s c w=>Any.strings_Count_one Tryz.lays138 s c w
  ·exact ext_clone
  ·exact ext_bits fun b w=>by
    rw[run_callFunc_extern (fn:=Tryz.f201) Tryz.func201 (by kernel_rfl) (by kernel_rfl) (by kernel_rfl) (e:=Extern.MathFloatBits.float64bits) (by kernel_rfl)]
    rfl
  ·exact ext_frombits fun n w=>by
    rw[run_callFunc_extern (fn:=Tryz.f258) Tryz.func258 (by kernel_rfl) (by kernel_rfl) (by kernel_rfl) (e:=Extern.MathFloatBits.float64frombits) (by kernel_rfl)]
    rfl
 ·have h:(f==66)=true:=h
  have:f=66:=by simpa using h
  subst this
  exact Go.Proofs.YthlhlfiklmmenaaGreatDoor.T.tryOk
#print axioms cfgOk
end Go.Aa.T
set_option linter.unusedVariables false
set_option linter.unusedSimpArgs false
namespace Go.Aa
variable{P:Program}{R:List (Nat×Nat)}
def rkOf(R:List (Nat×Nat))(u:Nat):Option Nat:=(R.find? fun p=>p.1==u).map (·.2)
def rkB(P:Program)(R:List (Nat×Nat)):Bool:=R.all fun p=>(P.partsOf p.1).all fun v=>match rkOf R v with
 |some r=>Nat.blt r p.2
 |none=>false
theorem rk_part(h:rkB P R=true){u ru v:Nat}(hu:rkOf R u=some ru)(hv:v∈P.partsOf u):∃r,rkOf R v=some r∧r<ru:=by
 unfold rkOf at hu
 obtain⟨p,hp,rfl⟩:=Option.map_eq_some_iff.1 hu
 have hm:=List.mem_of_find?_eq_some hp
 have he:=List.find?_some hp
 simp only[beq_iff_eq]at he
 have h1:=List.all_eq_true.1 h p hm
 rw[he]at h1
 have h2:=List.all_eq_true.1 h1 v hv
 split at h2
 ·rename_i r hr
  exact⟨r,hr,by simpa using h2⟩
 ·cases h2
theorem rk_grow(h:rkB P R=true){s:List TypeId}{r:Nat}(hs:∀x∈s,∃q,rkOf R x=some q∧q≤r):∀x∈P.grow s,∃q,rkOf R x=some q∧q≤r:=by
 intro x hx
 unfold Program.grow at hx
 rw[List.mem_eraseDups,List.mem_append]at hx
 rcases hx with hx|hx
 ·exact hs x hx
 ·obtain⟨u,hu,hx⟩:=List.mem_flatMap.1 hx
  obtain⟨q,hq,hl⟩:=hs u hu
  obtain⟨q',hq',hl'⟩:=rk_part h hq hx
  exact⟨q',hq',by omega⟩
theorem rk_grown(h:rkB P R=true){r:Nat}:∀(n:Nat){s:List TypeId},(∀x∈s,∃q,rkOf R x=some q∧q≤r)→∀x∈P.grown n s,∃q,rkOf R x=some q∧q≤r
 |0,_,hs=>hs
 |n+1,_,hs=>rk_grown h n (rk_grow h hs)
theorem rk_book(h:rkB P R=true){t r:Nat}(ht:rkOf R t=some r):∀x∈P.book t,∃q,rkOf R x=some q∧q≤r:=
 rk_grown h _ fun x hx=>by
  rw[List.mem_singleton]at hx
  subst hx
  exact⟨r,ht,Nat.le_refl _⟩
theorem rk_loops(h:rkB P R=true){t r:Nat}(ht:rkOf R t=some r):P.loopsFrom t=false:=by
 unfold Program.loopsFrom
 rw[List.any_eq_false]
 intro u hu
 obtain⟨ru,hu1,-⟩:=rk_book h ht u hu
 simp only[Bool.not_eq_true]
 rw[List.any_eq_false]
 intro v hv
 obtain⟨rv,hv1,hlt⟩:=rk_part h hu1 hv
 intro hc
 have hm:u∈P.book v:=by simpa using hc
 obtain⟨q,hq,hl⟩:=rk_book h hv1 u hm
 rw[hu1]at hq
 simp only[Option.some.injEq]at hq
 omega
theorem rk_all(h:rkB P R=true){ts:List TypeId}(ht:(ts.all fun t=>(rkOf R t).isSome)=true):ts.any (P.loopsFrom ·)=false:=by
 rw[List.any_eq_false]
 intro t hm
 have:=List.all_eq_true.1 ht t hm
 obtain⟨r,hr⟩:=Option.isSome_iff_exists.1 this
 rw[rk_loops h hr]
 exact Bool.false_ne_true
end Go.Aa
