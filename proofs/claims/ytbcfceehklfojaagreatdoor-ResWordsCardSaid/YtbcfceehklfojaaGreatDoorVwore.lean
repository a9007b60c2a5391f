/-
  WHAT THE LAW LEANS ON, part 5 of 6: a machine of values and its soundness; the functions of the law upon it; what they come to.
-/
import Derived.Test.YtbcfceehklfojaaGreatDoorVword
import Derived.ChangeShapes
import Derived.ChangeReads
import Derived.ChangeOld
import Derived.ProofKit
import Derived.Carry
import Derived.DataElems
import Derived.Laws.Pointers
import Derived.Lib.SlTrimSet
import Derived.Shelf.Strings.SlTrimAscii
import Derived.Shelf.Strings.OnBuilder
import Derived.Shelf.Strings.Count
import Derived.Shelf.Strings.Search3
import Derived.Sort.Grow
import Derived.Sort.Walk0
import Derived.Sort.EncStr
import Derived.Lib.ParseIntB
import Derived.Lib.Bytealg
import Derived.Lib.LaidTab
import Derived.Lib.AppendIntMem
import Derived.Lib.AtoiErrMem
import Derived.Test.YtbcfceehklfojaaGreatDoorChecked
import Derived.Tactics
import Derived.Tactics2
import Derived.Defers
import Derived.Recover
import Derived.Lib.ItoaLen
import Derived.Lib.Mul64
set_option linter.unusedVariables false
set_option linter.unusedSimpArgs false
namespace Go.Aa
open Go.RowKit Go.ChangeShapes Go.WideShapes Go.ChangeAt
def fltOf(b:Nat):AV:=if(FloatKind.f64.format.read b).isNaN=true then .nan else .flt b
theorem fltOf_rep{G:Ghost}{w:World}(b:Nat):Rep G w (.float .f64 b) (fltOf b):=by
 unfold fltOf
 split
 ·rename_i h;exact .nan b h
 ·exact .flt b
def tilesT(P:Program):Nat→List Field→Nat→Bool
 |off,[],tot=>off==tot
 |off,f::fs,tot=>(f.offset==off)&&tilesT P (off+P.cellsOf f.type) fs tot
def isAgg(P:Program)(t:TypeId):Bool:=match P.underlying t with
 |some (.struct _)=>true
 |_=>false
def plainT(P:Program):Nat→TypeId→Bool
 |0,_=>false
 |n+1,t=>
  match P.underlying t with
  |some .bool=>true
  |some (.int _)=>true
  |some (.float .f64)=>true
  |some .string=>true
  |some (.slice e)=>decide (0<P.cellsOf e)&&(isAgg P e||P.cellsOf e==1)&&plainT P n e
  |some (.struct fs)=>tilesT P 0 fs.toList (P.cellsOf t)&&fs.toList.all fun f=>plainT P n f.type
  |_=>false
def Tys(R:TypeId→List AV→Prop):List Field→List AV→Prop
 |[],xs=>xs=[]
 |f::fs,xs=>∃a b,xs=a++b∧R f.type a∧Tys R fs b
def Ty(P:Program):Nat→TypeId→List AV→Prop
 |0,_,_=>False
 |n+1,t,xs=>
  match P.underlying t with
  |some .bool=>∃b,xs=[.bool b]
  |some (.int k)=>∃m,xs=[.int k m]∧(Lit.int k m).wf=true
  |some (.float .f64)=>∃b,xs=[fltOf b]∧(Lit.float .f64 b).wf=true
  |some .string=>∃s,xs=[.str s]∧s.length≤9223372036854775807
  |some (.slice e)=>∃l:List AV,xs=[.sl .sh l]∧(l.length≤9223372036854775807∧∀x∈l,if isAgg P e then∃cs,x=.agg cs∧Ty P n e cs else Ty P n e [x])∧l.length*P.bytesOf e≤reachBytes
  |some (.struct fs)=>Tys (Ty P n) fs.toList xs
  |_=>False
section
variable{H:Type}{enc:TypeId×Value→H}{P:Program}{w:World}{base:Nat}{held:Bool}{G:Ghost}
theorem mapM_each{α β:Type}{f:α→Option β}{l:List α}{r:List β}(h:l.mapM f=some r):r.length=l.length∧∀i(h1:i<l.length)(h2:i<r.length),f l[i]=some r[i]:=by
 refine⟨mapM_some_length h,fun i h1 h2=> ?_⟩
 have:=mapM_some_get h i l[i] (List.getElem?_eq_getElem h1)
 rw[this,List.getElem?_eq_getElem h2]
theorem trod_spare:∀(n k:Nat)(t:TypeId)(cs:List Value)(x:DataW H×List MemPlace)(sp:Nat→Bool),plainT P k t=true→DataW.trod enc P w base (fun _=>true) held n t cs=some x→
 (∀p∈x.2,sp p.block=true)→DataW.trod enc P w base sp held n t cs=some x:=by
 intro n
 induction n with
 |zero=>intro k t cs x sp _ h;simp[DataW.trod]at h
 |succ n ih=>
  intro k t cs x sp hp h hs
  cases k with
  |zero=>cases hp
  |succ k=>
   unfold plainT at hp
   unfold DataW.trod at h⊢
   cases hu:P.underlying t with
   |none=>rw[hu]at hp;cases hp
   |some d=>
    rw[hu]at hp h
    cases d with
    |bool=>
     cases cs with
     |nil=>cases h
     |cons v r=>
      cases r with
      |cons v' r'=>cases v<;>cases h
      |nil=>cases v<;>first|exact h|cases h
    |int q=>
     cases cs with
     |nil=>cases h
     |cons v r=>
      cases r with
      |cons v' r'=>cases v<;>cases h
      |nil=>cases v<;>first|exact h|cases h
    |float q=>
     cases cs with
     |nil=>cases h
     |cons v r=>
      cases r with
      |cons v' r'=>cases v<;>cases h
      |nil=>cases v<;>first|exact h|cases h
    |string=>
     cases cs with
     |nil=>cases h
     |cons v r=>
      cases r with
      |cons v' r'=>cases v<;>cases h
      |nil=>cases v<;>first|exact h|cases h
    |slice e=>
     simp only[Bool.and_eq_true,decide_eq_true_eq]at hp
     obtain⟨⟨he,_⟩,hpe⟩:=hp
     cases cs with
     |nil=>cases h
     |cons v r=>
      cases r with
      |cons v' r'=>exact(by cases v<;>first|(cases h;done)|(rename_i oa len cap;cases oa<;>cases len<;>cases cap<;>cases h))
      |nil=>
       cases v with
       |slice oa len cap=>
        cases oa with
        |none=>cases len<;>cases cap<;>first|exact h|cases h
        |some a=>
         simp only at h⊢
         split at h
         ·rename_i hc
          rw[if_pos hc]
          cases he1:(List.range len).mapM fun i=>(w.cells? base (a.add (i*P.cellsOf e)) (P.cellsOf e)).bind (DataW.trod enc P w base (fun _=>true) held n e)with
          |none=>rw[he1]at h;cases h
          |some elems=>
           rw[he1]at h
           simp only[Option.bind_some,if_true]at h
           cases he2:(List.range (cap-len)).mapM fun j=>(w.cells? base (a.add ((len+j)*P.cellsOf e)) (P.cellsOf e)).bind (DataW.trod enc P w base (fun _=>true) held n e)with
           |none=>rw[he2]at h;cases h
           |some rest=>
            rw[he2]at h
            simp only[Option.map_some,Option.some.injEq]at h
            subst h
            have one:∀(i:Nat)(y:DataW H×List MemPlace),y∈elems++rest→(w.cells? base (a.add (i*P.cellsOf e)) (P.cellsOf e)).bind (DataW.trod enc P w base (fun _=>true) held n e)=some y→
             (w.cells? base (a.add (i*P.cellsOf e)) (P.cellsOf e)).bind (DataW.trod enc P w base sp held n e)=some y:=by
             intro i y hy hf
             cases hcs:w.cells? base (a.add (i*P.cellsOf e)) (P.cellsOf e)with
             |none=>rw[hcs]at hf;cases hf
             |some cs'=>
              rw[hcs]at hf
              simp only[Option.bind_some]at hf⊢
              exact ih k e cs' y sp hpe hf fun p hp=>hs p (by
               simp only[List.mem_append,List.mem_flatMap]
               exact .inr ⟨y,by simpa using hy,hp⟩)
            rw[mapM_carry he1 (fun i y _ hy hf=>one i y (by simp[hy]) hf)]
            simp only[Option.bind_some]
            have hrest:(if sp a.block=true then(List.range (cap-len)).mapM fun j=>(w.cells? base (a.add ((len+j)*P.cellsOf e)) (P.cellsOf e)).bind (DataW.trod enc P w base sp held n e)else some [])=some rest:=by
             by_cases hsp:sp a.block=true
             ·rw[if_pos hsp]
              exact mapM_carry he2 (fun j y _ hy hf=>one (len+j) y (by simp[hy]) hf)
             ·rw[if_neg hsp]
              have hr:=(mapM_each he2).1
              rw[List.length_range]at hr
              cases rest with
              |nil=>rfl
              |cons r0 rs=>
               exfalso
               refine hsp (hs (.cell a.block (a.off+0)) ?_)
               simp only[List.mem_append]
               refine .inl (MemPlace.mem_row.2 ⟨0,?_,rfl⟩)
               simp only[List.length_cons]
               exact Nat.mul_pos (by omega) he
            rw[hrest]
            rfl
         ·cases h
       |_=>cases h
    |struct fs=>
     simp only[Bool.and_eq_true,List.all_eq_true]at hp
     simp only at h⊢
     split at h
     ·rename_i hc
      rw[if_pos hc]
      cases he:fs.toList.mapM fun f=>DataW.trod enc P w base (fun _=>true) held n f.type ((cs.drop f.offset).take (P.cellsOf f.type))with
      |none=>rw[he]at h;cases h
      |some ys=>
       rw[he]at h
       simp only[Option.map_some,Option.some.injEq]at h
       subst h
       rw[mapM_carry he (fun f y hf hy hfy=>ih k f.type _ y sp (hp.2 f hf) hfy fun p hp'=>hs p (by simp only[List.mem_flatMap];exact⟨y,hy,hp'⟩))]
       rfl
     ·cases h
    |_=>cases hp
theorem cells_each{a:Addr}{n:Nat}{cs:List Value}(h:w.cells? base a n=some cs):cs.length=n∧∀j(hj:j<cs.length),w.cell? (a.add j)=some cs[j]:=by
 obtain⟨_,h1,h2⟩:=World.cells?_some h
 exact⟨h1,fun j hj=>by rw[h2 j (by omega),List.getElem?_eq_getElem hj]⟩
theorem addr_off(a:Addr)(n:Nat):(a.add n).off=a.off+n:=by unfold Addr.add;split<;>simp_all
theorem addr_block(a:Addr)(n:Nat):(a.add n).block=a.block:=by unfold Addr.add;split<;>rfl
theorem addr_add(a:Addr)(m n:Nat):(a.add m).add n=a.add (m+n):=Addr.add_add a m n
theorem cell_spot{a:Addr}{v:Value}(h:w.cell? a=some v):a.spot=none:=by
 unfold World.cell? at h
 split at h
 ·split at h
  ·cases h
  ·rename_i hs;simpa using hs
 ·cases h
def mkE(P:Program)(e:TypeId)(xs:List AV):AV:=if isAgg P e then .agg xs else xs.headD .undef
theorem single{k:Nat}{e:TypeId}{y:AV}(h:Ty P k e [y])(hn:isAgg P e=false):y.cells=[y]:=by
 cases k with
 |zero=>cases h
 |succ k=>
  unfold Ty at h
  unfold isAgg at hn
  cases hu:P.underlying e with
  |none=>rw[hu]at h;cases h
  |some d=>
   rw[hu]at h hn
   cases d with
   |bool=>obtain⟨b,hb⟩:=h;cases hb;rfl
   |int q=>obtain⟨b,hb,_⟩:=h;cases hb;rfl
   |float q=>
    cases q with
    |f32=>cases h
    |f64=>
     obtain⟨b,hb,_⟩:=h
     simp only[List.cons.injEq,and_true]at hb
     subst hb
     unfold fltOf;split<;>rfl
   |string=>obtain⟨b,hb,_⟩:=h;cases hb;rfl
   |slice q=>obtain⟨b,hb,_⟩:=h;cases hb;rfl
   |struct fs=>cases hn
   |_=>cases h
theorem mkE_cells{k:Nat}{e:TypeId}{xs:List AV}(h:Ty P k e xs)(hx:isAgg P e=true∨xs.length=1):(mkE P e xs).cells=xs:=by
 unfold mkE
 cases ha:isAgg P e with
 |true=>rfl
 |false=>
  rcases hx with h1|h1
  ·rw[ha]at h1;cases h1
  ·obtain⟨y,rfl⟩:=List.length_eq_one_iff.1 h1
   exact single h ha
theorem mkE_ty{k:Nat}{e:TypeId}{xs:List AV}(h:Ty P k e xs)(hx:isAgg P e=true∨xs.length=1):if isAgg P e then∃cs,mkE P e xs=.agg cs∧Ty P k e cs else Ty P k e [mkE P e xs]:=by
 unfold mkE
 cases ha:isAgg P e with
 |true=>exact⟨xs,rfl,h⟩
 |false=>
  rcases hx with h1|h1
  ·rw[ha]at h1;cases h1
  ·obtain⟨y,rfl⟩:=List.length_eq_one_iff.1 h1
   exact h
theorem tiles_le:∀{fs:List Field}{off tot:Nat},tilesT P off fs tot=true→off≤tot
 |[],off,tot,h=>by simp[tilesT]at h;omega
 |f::fs,off,tot,h=>by
  simp only[tilesT,Bool.and_eq_true]at h
  have:=tiles_le h.2
  omega
theorem weights_at{ts:List TypeId}{ds:List (DataW H)}:∀{e:TypeId}{l:List (DataW H)},(DataW.weightsAll P e l).all (·≤reachBytes)=true→∀(i:Nat)(h:i<l.length),(l[i].weights P e).all (·≤reachBytes)=true
 |e,[],_,i,h=>absurd h (by simp)
 |e,d::l,hw,0,h=>by
  simp only[DataW.weightsAll,List.all_append,Bool.and_eq_true]at hw
  exact hw.1
 |e,d::l,hw,i+1,h=>by
  simp only[DataW.weightsAll,List.all_append,Bool.and_eq_true]at hw
  exact weights_at (ts:=ts) (ds:=ds) hw.2 i (by simpa using h)
theorem fields_rep{n:Nat}{R:TypeId→List AV→Prop}{cs:List Value}{tot:Nat}(hcs:cs.length=tot):∀{fs:List Field}{off:Nat}{ys:List (DataW H×List MemPlace)},
 (∀f∈fs,∀y,DataW.trod enc P w base (fun _=>true) held n f.type ((cs.drop f.offset).take (P.cellsOf f.type))=some y→(y.1.weights P f.type).all (·≤reachBytes)=true→
   ∃xs:List AV,xs.length=((cs.drop f.offset).take (P.cellsOf f.type)).length∧(∀(i:Nat)v y,((cs.drop f.offset).take (P.cellsOf f.type))[i]?=some v→xs[i]?=some y→Rep G w v y)∧(∀y∈xs,AV.Data y)∧R f.type xs)→
 tilesT P off fs tot=true→(fs.mapM fun f=>DataW.trod enc P w base (fun _=>true) held n f.type ((cs.drop f.offset).take (P.cellsOf f.type)))=some ys→(DataW.weightsEach P (fs.map (·.type)) (ys.map (·.1))).all (·≤reachBytes)=true→
 ∃xs:List AV,xs.length=tot-off∧(∀(i:Nat)v y,cs[off+i]?=some v→xs[i]?=some y→Rep G w v y)∧(∀y∈xs,AV.Data y)∧Tys R fs xs
 |[],off,ys,_,ht,_,_=>by
  simp[tilesT]at ht
  exact⟨[],by simp;omega,fun i v y _ h=>(by simp at h),fun y hy=>(by cases hy),rfl⟩
 |f::fs,off,ys,ih,ht,hm,hwt=>by
  simp only[tilesT,Bool.and_eq_true,beq_iff_eq]at ht
  obtain⟨hoff,ht⟩:=ht
  have hle:=tiles_le ht
  rw[List.mapM_cons]at hm
  cases h1:DataW.trod enc P w base (fun _=>true) held n f.type ((cs.drop f.offset).take (P.cellsOf f.type))with
  |none=>rw[h1]at hm;cases hm
  |some y=>
   rw[h1]at hm
   cases h2:fs.mapM fun f=>DataW.trod enc P w base (fun _=>true) held n f.type ((cs.drop f.offset).take (P.cellsOf f.type))with
   |none=>rw[h2]at hm;cases hm
   |some ys'=>
    rw[h2]at hm
    cases hm
    simp only[List.map_cons,DataW.weightsEach,List.all_append,Bool.and_eq_true]at hwt
    obtain⟨a,a1,a2,a3,a4⟩:=ih f (by simp) y h1 hwt.1
    obtain⟨b,b1,b2,b3,b4⟩:=fields_rep hcs (fun f hf=>ih f (by simp[hf])) ht h2 hwt.2
    rw[List.length_take,List.length_drop,hoff]at a1
    have la:a.length=P.cellsOf f.type:=by omega
    refine⟨a++b,by rw[List.length_append];omega,fun i v y hv hy=> ?_,fun y hy=> ?_,a,b,rfl,a4,b4⟩
    ·rcases Nat.lt_or_ge i a.length with hi|hi
     ·rw[List.getElem?_append_left hi]at hy
      refine a2 i v y ?_ hy
      rw[List.getElem?_take,if_pos (by omega),List.getElem?_drop,hoff]
      exact hv
     ·rw[List.getElem?_append_right hi]at hy
      refine b2 (i-a.length) v y ?_ hy
      rw[←hv];congr 1;omega
    ·rcases List.mem_append.1 hy with hy|hy
     ·exact a3 y hy
     ·exact b3 y hy
theorem trod_rep(hG:∀a v,w.cell? a=some v→a.off<G.lim a.block):∀(n k:Nat)(t:TypeId)(cs:List Value)(x:DataW H×List MemPlace),plainT P k t=true→DataW.trod enc P w base (fun _=>true) held n t cs=some x→(x.1.weights P t).all (·≤reachBytes)=true→
 ∃xs:List AV,xs.length=cs.length∧(∀(i:Nat)v y,cs[i]?=some v→xs[i]?=some y→Rep G w v y)∧(∀y∈xs,AV.Data y)∧Ty P k t xs:=by
 intro n
 induction n with
 |zero=>intro k t cs x _ h;simp[DataW.trod]at h
 |succ n ih=>
  intro k t cs x hp h hwt
  cases k with
  |zero=>cases hp
  |succ k=>
   unfold plainT at hp
   unfold DataW.trod at h
   unfold Ty
   cases hu:P.underlying t with
   |none=>rw[hu]at hp;cases hp
   |some d=>
    rw[hu]at hp h
    have one:∀(v:Value)(y:AV),Rep G w v y→∀(i:Nat)v' y',[v][i]?=some v'→[y][i]?=some y'→Rep G w v' y':=fun v y hr i v' y' h1 h2=>by
     cases i with
     |zero=>cases h1;cases h2;exact hr
     |succ i=>cases h1
    have done:∀(v:Value)(y:AV),AV.Data y→Rep G w v y→∀z∈[y],AV.Data z:=fun v y hd _ z hz=>by
     rw[List.mem_singleton]at hz;subst hz;exact hd
    cases d with
    |bool=>
     cases cs with
     |nil=>cases h
     |cons v r=>
      cases r with
      |cons v' r'=>cases v<;>cases h
      |nil=>
       cases v with
       |bool b=>exact⟨[.bool b],rfl,one _ _ (.bool b),done _ _ (.bool b) (.bool (w:=w) (G:=G) b),b,rfl⟩
       |_=>cases h
    |int q=>
     cases cs with
     |nil=>cases h
     |cons v r=>
      cases r with
      |cons v' r'=>cases v<;>cases h
      |nil=>
       cases v with
       |int q' m=>
        simp only at h
        split at h
        ·rename_i hc
         obtain⟨rfl,hw⟩:=hc
         exact⟨[.int q' m],rfl,one _ _ (.int q' m),done _ _ (.int q' m) (.int (w:=w) (G:=G) q' m),m,rfl,hw⟩
        ·cases h
       |_=>cases h
    |float q=>
     cases q with
     |f32=>cases hp
     |f64=>
     cases cs with
     |nil=>cases h
     |cons v r=>
      cases r with
      |cons v' r'=>cases v<;>cases h
      |nil=>
       cases v with
       |float q' m=>
        simp only at h
        split at h
        ·rename_i hc
         obtain⟨rfl,hw⟩:=hc
         refine⟨[fltOf m],rfl,one _ _ (fltOf_rep m),done (.float .f64 m) _ ?_ (fltOf_rep m),m,rfl,hw⟩
         unfold fltOf
         split
         ·exact .nan
         ·exact .flt m
        ·cases h
       |_=>cases h
    |string=>
     cases cs with
     |nil=>cases h
     |cons v r=>
      cases r with
      |cons v' r'=>cases v<;>cases h
      |nil=>
       cases v with
       |string b=>
        simp only at h
        split at h
        ·rename_i hc
         refine⟨[.str b.data.toList],rfl,one _ _ (.str (w:=w) (G:=G) b.data.toList),done (.string b) _ (.str _) (.str (w:=w) (G:=G) b.data.toList),_,rfl,?_⟩
         exact hc
        ·cases h
       |_=>cases h
    |slice e=>
     simp only[Bool.and_eq_true,decide_eq_true_eq]at hp
     obtain⟨⟨he,hag⟩,hpe⟩:=hp
     cases cs with
     |nil=>cases h
     |cons v r=>
      cases r with
      |cons v' r'=>exact(by cases v<;>first|(cases h;done)|(rename_i oa len cap;cases oa<;>cases len<;>cases cap<;>cases h))
      |nil=>
       cases v with
       |slice oa len cap=>
        cases oa with
        |none=>
         cases len with
         |succ l=>cases h
         |zero=>
          cases cap with
          |succ l=>cases h
          |zero=>exact⟨[.sl .sh []],rfl,one _ _ (.sl0 none 0 .sh (fun hh=>by cases hh) (fun t hh=>by cases hh)),done (.slice none 0 0) _ (.sl _ _ (fun t hh=>by cases hh) (fun x hx=>by cases hx)) (.sl0 none 0 .sh (fun hh=>by cases hh) (fun t hh=>by cases hh)),[],rfl,⟨by simp,fun x hx=>by cases hx⟩,by simp⟩
        |some a=>
         simp only at h
         split at h
         ·rename_i hc
          cases he1:(List.range len).mapM fun i=>(w.cells? base (a.add (i*P.cellsOf e)) (P.cellsOf e)).bind (DataW.trod enc P w base (fun _=>true) held n e)with
          |none=>rw[he1]at h;cases h
          |some elems=>
           obtain⟨hl,hel⟩:=mapM_each he1
           rw[List.length_range]at hl
           rw[he1,Option.bind_some,Option.map_eq_some_iff]at h
           obtain⟨rest,-,h⟩:=h
           subst h
           simp only[DataW.weights,hu,List.all_cons,List.all_append,Bool.and_eq_true,decide_eq_true_eq,List.length_map]at hwt
           have hwe:=weights_at (ts:=[]) (ds:=[]) hwt.2.1
           have each:∀i,∃p:List Value×List AV,i<len→p.1.length=P.cellsOf e∧(∀j(hj:j<p.1.length),w.cell? (a.add (i*P.cellsOf e+j))=some p.1[j])∧p.2.length=P.cellsOf e∧
            (∀(j:Nat)v y,p.1[j]?=some v→p.2[j]?=some y→Rep G w v y)∧(∀y∈p.2,AV.Data y)∧Ty P k e p.2:=by
            intro i
            by_cases hi:i<len
            ·have:=hel i (by simpa using hi) (by omega)
             simp only[List.getElem_range]at this
             cases hcs:w.cells? base (a.add (i*P.cellsOf e)) (P.cellsOf e)with
             |none=>rw[hcs]at this;cases this
             |some row=>
              rw[hcs]at this
              obtain⟨r1,r2⟩:=cells_each hcs
              obtain⟨xs,x1,x3,x4,x5⟩:=ih k e row _ hpe this (by have:=hwe i (by rw[List.length_map];omega);rwa [List.getElem_map]at this)
              exact⟨(row,xs),fun _=>⟨r1,fun j hj=>by rw[←r2 j hj,addr_add],by simp only;omega,x3,x4,x5⟩⟩
            ·exact⟨([],[]),fun hh=>absurd hh hi⟩
           obtain⟨f,hf⟩:=Classical.axiomOfChoice each
           have hcells:∀i,i<len→(mkE P e (f i).2).cells=(f i).2:=fun i hi=>mkE_cells (hf i hi).2.2.2.2.2 (by
            have:=(hf i hi).2.2.1
            rcases Bool.or_eq_true _ _▸hag with h1|h1
            ·exact .inl h1
            ·exact .inr (by rw[this];simpa using h1))
           have hlen:((List.range len).map fun i=>mkE P e (f i).2).length=len:=by simp
           have hget:∀i(hi:i<((List.range len).map fun i=>mkE P e (f i).2).length),((List.range len).map fun i=>mkE P e (f i).2)[i]=mkE P e (f i).2:=fun i hi=>by simp
           have hdat:∀x∈((List.range len).map fun i=>mkE P e (f i).2),∀y∈x.cells,AV.Data y:=fun x hx y hy=>by
            obtain⟨i,hi,rfl⟩:=List.mem_map.1 hx
            rw[List.mem_range]at hi
            rw[hcells i hi]at hy
            exact(hf i hi).2.2.2.2.1 y hy
           have hrep:Rep G w (.slice (some a) len cap) (.sl .sh ((List.range len).map fun i=>mkE P e (f i).2)):=by
            rcases Nat.eq_zero_or_pos len with h0|h0
            ·subst h0
             exact .sl0 (some a) cap .sh (fun hh=>by cases hh) (fun t hh=>by cases hh)
            ·have hs:a.spot=none:=by
              obtain⟨r1,r2,_⟩:=hf 0 h0
              have:=r2 0 (by omega)
              rw[show 0*P.cellsOf e+0=0 by omega]at this
              exact cell_spot (a:=a) this
             have:=Rep.sl (G:=G) (w:=w) a cap .sh ((List.range len).map fun i=>mkE P e (f i).2) (P.cellsOf e) (fun i j=>((f i).1[j]?).getD Go.undef) (by
              intro hh
              have:=congrArg List.length hh
              rw[hlen]at this
              simp at this;omega)
              (by rw[hlen];exact hc.2.1) hc.2.2 hs (fun i hi=>by rw[hget i hi,hcells i (by omega)];exact(hf i (by omega)).2.2.1) he hdat
              (by
                rw[hlen]
                obtain⟨r1,r2,_⟩:=hf (len-1) (by omega)
                have:=hG _ _ (r2 (P.cellsOf e-1) (by omega))
                have e2:(a.add ((len-1)*P.cellsOf e+(P.cellsOf e-1))).off=a.off+((len-1)*P.cellsOf e+(P.cellsOf e-1)):=addr_off _ _
                rw[e2]at this
                have e3:len*P.cellsOf e=(len-1)*P.cellsOf e+P.cellsOf e:=by
                 conv=>lhs;rw[show len=(len-1)+1 by omega,Nat.add_mul,Nat.one_mul]
                have e4:(a.add ((len-1)*P.cellsOf e+(P.cellsOf e-1))).block=a.block:=addr_block _ _
                rw[e4]at this
                omega)
              (fun i hi j hj=>by
                rw[hlen]at hi
                obtain⟨r1,r2,_⟩:=hf i hi
                have hj':j<(f i).1.length:=by omega
                rw[r2 j hj',List.getElem?_eq_getElem hj'];rfl)
              (fun i hi j hj=>by
                have hi':i<len:=by omega
                obtain⟨r1,r2,r3,r4,_⟩:=hf i hi'
                simp only[hget i hi,hcells i hi']at hj⊢
                have hj':j<(f i).1.length:=by omega
                rw[List.getElem?_eq_getElem hj']
                exact r4 j _ _ (List.getElem?_eq_getElem hj') (List.getElem?_eq_getElem hj))
              (fun hh=>by cases hh) (fun t hh=>by cases hh)
             rw[hlen]at this
             exact this
           refine⟨_,rfl,one _ _ hrep,done _ _ (.sl _ _ (fun t hh=>by cases hh) hdat) hrep,_,rfl,⟨?_,?_⟩,by rw[hlen,←hl];exact Nat.le_trans (Nat.mul_le_mul_right _ (Nat.le_add_right _ _)) hwt.1⟩
           ·rw[hlen]
            have:=hc.2.2
            have:=hc.2.1
            have e:maxLen=9223372036854775807:=rfl
            omega
           ·intro x hx
            obtain⟨i,hi,rfl⟩:=List.mem_map.1 hx
            rw[List.mem_range]at hi
            exact mkE_ty (hf i hi).2.2.2.2.2 (by
             have:=(hf i hi).2.2.1
             rcases Bool.or_eq_true _ _▸hag with h1|h1
             ·exact .inl h1
             ·exact .inr (by rw[this];simpa using h1))
         ·cases h
       |_=>cases h
    |struct fs=>
     simp only[Bool.and_eq_true,List.all_eq_true]at hp
     simp only at h
     split at h
     ·rename_i hc
      cases he:fs.toList.mapM fun f=>DataW.trod enc P w base (fun _=>true) held n f.type ((cs.drop f.offset).take (P.cellsOf f.type))with
      |none=>rw[he]at h;cases h
      |some ys=>
       rw[he]at h
       simp only[Option.map_some,Option.some.injEq]at h
       subst h
       simp only[DataW.weights,hu]at hwt
       obtain⟨xs,x1,x2,x3,x4⟩:=fields_rep (R:=Ty P k) (tot:=P.cellsOf t) (cs:=cs) hc (fun f hf ys hy hw=>ih k f.type _ ys (hp.2 f hf) hy hw) hp.1 he hwt
       exact⟨xs,by omega,fun i v y h1 h2=>x2 i v y (by simpa using h1) h2,x3,x4⟩
     ·cases h
    |_=>cases hp
def TyV(P:Program)(k:Nat)(t:TypeId)(x:AV):Prop:=if isAgg P t then∃cs,x=.agg cs∧Ty P k t cs else Ty P k t [x]
def TyAll(P:Program)(k:Nat):List TypeId→List AV→Prop
 |[],[]=>True
 |t::ts,x::xs=>TyV P k t x∧TyAll P k ts xs
 |_,_=>False
theorem not_agg{k:Nat}{r:Reach}{b0:Nat}{t:TypeId}{v:Value}(hp:plainT P k t=true)(ha:isAgg P t=false)(hval:Value.okWide P w r b0 t v):v.cells= #[v]:=by
 cases k with
 |zero=>cases hp
 |succ k=>
  unfold plainT at hp
  unfold isAgg at ha
  unfold Value.okWide at hval
  cases hu:P.underlying t with
  |none=>rw[hu]at hp;cases hp
  |some d=>
   rw[hu]at hp ha hval
   cases d with
   |struct fs=>cases ha
   |bool=>cases v<;>first|rfl|(simp[Cell.okWide,Cell.ok,hu]at hval;done)
   |int q=>cases v<;>first|rfl|(simp[Cell.okWide,Cell.ok,hu]at hval;done)
   |float q=>cases v<;>first|rfl|(simp[Cell.okWide,Cell.ok,hu]at hval;done)
   |string=>cases v<;>first|rfl|(simp[Cell.okWide,Cell.ok,hu]at hval;done)
   |slice q=>cases v<;>first|rfl|(simp[Cell.okWide,Cell.ok,hu]at hval;done)
   |_=>cases hp
theorem agg_of{r:Reach}{b0:Nat}{t:TypeId}{v:Value}(ha:isAgg P t=true)(hval:Value.okWide P w r b0 t v):∃cs,v=.agg cs:=by
 unfold isAgg at ha
 unfold Value.okWide at hval
 cases hu:P.underlying t with
 |none=>rw[hu]at ha;cases ha
 |some d=>
  rw[hu]at ha hval
  cases d with
  |struct fs=>obtain⟨cs,h,_⟩:=hval;exact⟨cs,h⟩
  |_=>cases ha
theorem one_rep(hG:∀a v,w.cell? a=some v→a.off<G.lim a.block){k:Nat}{r:Reach}{b0:Nat}{t:TypeId}{v:Value}{d:DataW H}{ps:List MemPlace}(hp:plainT P k t=true)(hval:Value.okWide P w r b0 t v)
 (h:DataW.Trod enc P w base (fun _=>true) held t v d ps)(hwt:(d.weights P t).all (·≤reachBytes)=true):∃x,Rep G w v x∧TyV P k t x:=by
 obtain⟨n,hn⟩:=h
 obtain⟨xs,x1,x2,x3,x4⟩:=trod_rep hG n k t _ _ hp hn hwt
 unfold TyV
 cases ha:isAgg P t with
 |true=>
  obtain⟨cs,rfl⟩:=agg_of ha hval
  refine⟨.agg xs,.agg cs xs (by rw[x1];exact Array.length_toList.symm) (fun i h1 h2=>x2 i _ _ ?_ (List.getElem?_eq_getElem h2)),xs,rfl,x4⟩
  rw[show(Value.agg cs).cells=cs from rfl,Array.getElem?_toList,Array.getElem?_eq_getElem h1]
 |false=>
  have hc:=not_agg hp ha hval
  rw[hc]at x1 x2
  obtain⟨y,rfl⟩:=List.length_eq_one_iff.1 (x1.trans rfl)
  exact⟨y,x2 0 v y rfl rfl,x4⟩
theorem all_rep(hG:∀a v,w.cell? a=some v→a.off<G.lim a.block){k:Nat}{r:Reach}{b0:Nat}:∀{ts:List TypeId}{vs:List Value}{ds:List (DataW H)}{ps:List MemPlace},ts.all (plainT P k)=true→
 (∀(j:Nat)t v,ts[j]?=some t→vs[j]?=some v→Value.okWide P w r b0 t v)→DataW.TrodAll enc P w base (fun _=>true) held ts vs ds ps→(DataW.weightsEach P ts ds).all (·≤reachBytes)=true→
 ∃xs:List AV,xs.length=vs.length∧(∀(i:Nat)v y,vs[i]?=some v→xs[i]?=some y→Rep G w v y)∧TyAll P k ts xs
 |[],[],[],ps,_,_,_,_=>⟨[],rfl,fun i v y h=>(by simp at h),trivial⟩
 |t::ts,v::vs,d::ds,ps,hp,hval,⟨p,q,h1,h2,_⟩,hwt=>by
  rw[List.all_cons,Bool.and_eq_true]at hp
  simp only[DataW.weightsEach,List.all_append,Bool.and_eq_true]at hwt
  obtain⟨x,hx,hy⟩:=one_rep hG hp.1 (hval 0 t v rfl rfl) h1 hwt.1
  obtain⟨xs,x1,x2,x3⟩:=all_rep hG hp.2 (fun j t v a b=>hval (j+1) t v a b) h2 hwt.2
  refine⟨x::xs,by simp[x1],fun i v' y' a b=> ?_,hy,x3⟩
  cases i with
  |zero=>cases a;cases b;exact hx
  |succ i=>exact x2 i v' y' a b
 |[],[],_::_,_,_,_,h,_=>h.elim
 |[],_::_,_,_,_,_,h,_=>h.elim
 |_::_,[],_,_,_,_,h,_=>h.elim
 |_::_,_::_,[],_,_,_,h,_=>h.elim
theorem all_shut{w':World}{k:Nat}{sp:Nat→Bool}(hB:Below w.heap.size w w'):∀{ts:List TypeId}{vs:List Value}{ds:List (DataW H)}{ps:List MemPlace},ts.all (plainT P k)=true→
 (∀p∈ps,sp p.block=true)→DataW.TrodAll enc P w base (fun _=>true) held ts vs ds ps→DataW.TrodAll enc P w' base sp held ts vs ds ps
 |[],[],[],ps,_,_,h=>h
 |t::ts,v::vs,d::ds,ps,hp,hs,⟨p,q,⟨n,h1⟩,h2,e⟩=>by
  subst e
  rw[List.all_cons,Bool.and_eq_true]at hp
  refine⟨p,q,⟨n,?_⟩,all_shut hB hp.2 (fun x hx=>hs x (by simp[hx])) h2,rfl⟩
  refine DataW.trod_carry n _ _ _ (trod_spare n k _ _ _ sp hp.1 h1 fun x hx=>hs x (by simp[hx])) (fun x hx=>hB.same (DataW.trod_lt n _ _ _ h1 x hx))
 |[],[],_::_,_,_,_,h=>h.elim
 |[],_::_,_,_,_,_,h=>h.elim
 |_::_,[],_,_,_,_,h=>h.elim
 |_::_,_::_,[],_,_,_,h=>h.elim
theorem all_len{sp:Nat→Bool}:∀{ts:List TypeId}{vs:List Value}{ds:List (DataW H)}{ps:List MemPlace},DataW.TrodAll enc P w base sp held ts vs ds ps→vs.length=ts.length∧ds.length=ts.length
 |[],[],[],_,_=>⟨rfl,rfl⟩
 |t::ts,v::vs,d::ds,ps,⟨p,q,h1,h2,e⟩=>by
  obtain⟨a,b⟩:=all_len h2
  exact⟨by simp[a],by simp[b]⟩
 |[],[],_::_,_,h=>h.elim
 |[],_::_,_,_,h=>h.elim
 |_::_,[],_,_,h=>h.elim
 |_::_,_::_,[],_,h=>h.elim
def GW(w:World):Ghost:={lim:=fun b=>match w.heap[b]? with|some (.cells c _ _)=>c.size|_=>0,nb:=0,μ:=fun _=>0,nt:=0,τ:=fun _=>0,ext:=fun _=>0,cap:=fun _=>0,tes:=fun _=>0,nl:=0,ln:=fun _=>0,mc:=fun _=>0,hole:=fun _=>false}
def Glob0(P:Program)(w:World):Prop:=∀s∈globSpec,∀g,P.globalNamed s.1=some g→∃cs e m,w.heap[g]?=some (.cells cs e m)∧s.2 cs
theorem glob0_none(h:(globSpec.map (fun s=>s.1)).all (fun s=>(P.globalNamed s).isNone)=true)(w:World):Glob0 P w:=fun s hs g hg=>by
 have:=List.all_eq_true.1 h s.1 (List.mem_map_of_mem hs)
 rw[hg]at this;cases this
theorem GW_heap(w:World)(hg:Glob0 P w):HRep P (GW w) w Heap.nil:=
 ⟨fun b hb=>by simp[GW,Array.getElem?_eq_none hb],rfl,rfl,rfl,fun k hk=>absurd hk (by simp[Heap.nil]),fun i j hi=>absurd hi.1 (by simp[GW]),fun k hk=>absurd hk.1 (by simp[GW]),fun t ht=>absurd ht (by simp[Heap.nil]),fun i j hi=>absurd hi (by simp[GW]),
  fun k t hk=>absurd hk.1 (by simp[GW]),fun l hl=>absurd hl (by simp[Heap.nil]),fun i j hi=>absurd hi (by simp[GW]),
  fun s hs g h=>by
   obtain⟨cs,e,m,h1,h2⟩:=hg s hs g h
   exact⟨⟨fun k hk=>absurd hk.1 (by simp[GW]),fun k hk=>absurd hk (by simp[GW]),fun k hk=>absurd hk (by simp[GW])⟩,cs,e,m,h1,h2⟩⟩
theorem GW_lim:∀a v,w.cell? a=some v→a.off<(GW w).lim a.block:=by
 intro a v h
 unfold World.cell? at h
 unfold GW
 simp only
 split at h
 ·rename_i c _ _ hc
  rw[hc]
  split at h
  ·cases h
  ·exact(Array.getElem?_eq_some_iff.1 h).1
 ·cases h
theorem step_below{G:Ghost}{w w':World}{G':Ghost}(h:Step G w G' w')(h1:G.nb=0)(h2:G.nt=0)(h3:G.nl=0):Below w.heap.size w w':=
 ⟨h.os,h.tape,h.output,h.size,fun k hk=>(h.frame k hk (fun i hi=>absurd hi.1 (by omega)) (fun i hi=>absurd hi (by omega)) (fun i hi=>absurd hi (by omega))).1⟩
theorem post_of_below{f:Func}{s:ChangeSpec}{apart fresh handsOn again:Bool}{W W':World}{args:Array Value}{v:Value}{ds gs:List (DataW H)}{before pa pv:List MemPlace}
 (hW:DataW.Whole enc P f.params.toList s.vars apart W args.toList ds gs before)
 (hres:∀(b:Nat)(sp:Nat→Bool)(hd:Bool),DataW.TrodAll enc P W' b sp hd f.resultTypes.toList (v.resultList f.resultTypes.size) (s.fn H (ds++gs)).results [])
 (hargs:∀sp:Nat→Bool,(∀p∈before,sp p.block=true)→DataW.TrodAll enc P W' 0 sp true f.params.toList args.toList (s.fn H (ds++gs)).args pa)
 (hvars:∀sp:Nat→Bool,(∀p∈before,sp p.block=true)→DataW.TrodVars enc P W' sp s.vars (s.fn H (ds++gs)).vars pv)
 (hps:before=pa++pv)(hb:Below W.heap.size W W')
 (hok:∀(j:Nat)(t:TypeId)(r:Value),f.resultTypes[j]?=some t→(v.resultList f.resultTypes.size)[j]?=some r→Value.okWide P W' .any 0 t r):
 s.post enc P f apart fresh handsOn again W args v W':=by
 have hlt:∀p∈before,p.block<W.heap.size:=fun p hp=>hW.lt p hp
 have hold:∀p∈before,(fun b=>decide (b<W.heap.size)) p.block=true:=fun p hp=>by simpa using hlt p hp
 refine⟨ds,gs,before,[],pa,pv,hW,hres _ _ _,hargs _ hold,hvars _ hold,World.keptBut_mono (fun p hp=>⟨hp,?_⟩) (hb.frame (·∈before)),fun _=> ?_⟩
 ·rw[hps,List.mem_append]at hp
  exact Or.inr hp
 ·obtain⟨_,_,_,_,_,hz,hn⟩:=hW
  refine⟨hok,_,_,([]++pa)++pv,⟨[]++pa,pv,trodAll_append (hargs _ (fun _ _=>rfl)) (hres _ _ _),hvars _ (fun _ _=>rfl),rfl,?_,?_⟩,?_⟩
  ·intro b off hp
   have hin:MemPlace.cell b off∈before:=by rw[hps];simpa using hp
   rw[hb.frozen (hlt _ hin)]
   exact hz b off hin
  ·intro ha
   have:=hn ha
   rw[hps]at this
   simpa using this
  ·intro p hp _
   rw[hps]
   simpa using hp
end
section
variable{P:Program}{k:Nat}{t:TypeId}{x:AV}{xs:List AV}
theorem ty_int{q:IntKind}(hu:P.underlying t=some (.int q))(h:Ty P (k+1) t xs):∃m,xs=[.int q m]∧(Lit.int q m).wf=true:=by unfold Ty at h;rw[hu]at h;exact h
theorem ty_string(hu:P.underlying t=some .string)(h:Ty P (k+1) t xs):∃s,xs=[.str s]∧s.length≤9223372036854775807:=by unfold Ty at h;rw[hu]at h;exact h
theorem ty_sliceZ{e:TypeId}(hu:P.underlying t=some (.slice e))(h:Ty P (k+1) t xs):∃l:List AV,xs=[.sl .sh l]∧(l.length≤9223372036854775807∧∀x∈l,TyV P k e x)∧l.length*P.bytesOf e≤reachBytes:=by unfold Ty at h;rw[hu]at h;exact h
theorem ty_slice{e:TypeId}(hu:P.underlying t=some (.slice e))(h:Ty P (k+1) t xs):∃l:List AV,xs=[.sl .sh l]∧l.length≤9223372036854775807∧∀x∈l,TyV P k e x:=by
 obtain⟨l,h1,h2,-⟩:=ty_sliceZ hu h
 exact⟨l,h1,h2⟩
theorem ty_struct{fs:Array Field}(hu:P.underlying t=some (.struct fs))(h:Ty P (k+1) t xs):Tys (Ty P k) fs.toList xs:=by unfold Ty at h;rw[hu]at h;exact h
theorem tyv_string(hu:P.underlying t=some .string)(h:TyV P (k+1) t x):∃s,x=.str s∧s.length≤9223372036854775807:=by
 unfold TyV isAgg at h;rw[hu]at h
 obtain⟨b,e,hw⟩:=ty_string hu h
 exact⟨b,by simpa using e,hw⟩
theorem tyv_slice{e:TypeId}(hu:P.underlying t=some (.slice e))(h:TyV P (k+1) t x):∃l:List AV,x=.sl .sh l∧l.length≤9223372036854775807∧∀y∈l,TyV P k e y:=by
 unfold TyV isAgg at h;rw[hu]at h
 obtain⟨b,e,hw⟩:=ty_slice hu h
 exact⟨b,by simpa using e,hw⟩
theorem tyv_struct{fs:Array Field}(hu:P.underlying t=some (.struct fs))(h:TyV P (k+1) t x):∃cs,x=.agg cs∧Tys (Ty P k) fs.toList cs:=by
 unfold TyV isAgg at h;rw[hu]at h
 obtain⟨cs,e,hw⟩:=h
 exact⟨cs,e,ty_struct hu hw⟩
theorem tyall_2{a b:TypeId}(h:TyAll P k [a,b] xs):∃x y,xs=[x,y]∧TyV P k a x∧TyV P k b y:=by
 match xs,h with
 |[x,y],⟨h,h2,_⟩=>exact⟨x,y,rfl,h,h2⟩
end
end Go.Aa
set_option linter.unusedVariables false
set_option linter.unusedSimpArgs false
namespace Go.Aa
open Go.RowKit
variable{P:Program}{G G':Ghost}{w w2 w3:World}{H H':Heap}
def Free(G:Ghost)(b:Nat):Prop:=G.lim b=0∧(∀k,G.on k→b≠G.μ k)∧(∀t,t<G.nt→b≠G.τ t)∧(∀k,k<G.nl→b≠G.ln k)
theorem free_new(hH:HRep P G w H):Free G w.heap.size:=
 ⟨hH.base _ (Nat.le_refl _),fun k hk e=>by have:=hH.μlt hk;omega,fun t ht e=>by
   obtain⟨_,us,u,h,_⟩:=hH.tok t (by rw[←hH.nt];exact ht)
   rw[←e]at h
   exact absurd (Array.getElem?_eq_some_iff.1 h).1 (by omega),
  fun l hl e=>by
   obtain⟨rec,h,_⟩:=hH.loop l (by rw[←hH.nl];exact hl)
   rw[←e]at h
   exact absurd (Array.getElem?_eq_some_iff.1 h).1 (by omega)⟩
theorem lay_step(hH:HRep P G w H)(o:Obj):Step G w G (w.alloc o)∧HRep P G (w.alloc o) H:=by
 have hheap:∀b,b<w.heap.size→(w.alloc o).heap[b]?=w.heap[b]?:=fun b hb=>Below.heap_alloc w o b hb
 have hsz:(w.alloc o).heap.size=w.heap.size+1:=by simp
 have hcell:∀b off,off<G.lim b→(w.alloc o).cell? ⟨b,off,none⟩=w.cell? ⟨b,off,none⟩:=fun b off h=>by
  have hb:b<w.heap.size:=by
   rcases Nat.lt_or_ge b w.heap.size with h1|h1
   ·exact h1
   ·rw[hH.base b h1]at h;omega
  unfold World.cell?
  rw[hheap b hb]
 have hst:Step G w G (w.alloc o):=
  ⟨rfl,rfl,rfl,by omega,fun _=>Nat.le_refl _,hcell,Nat.le_refl _,fun _ _=>rfl,fun _ _=>rfl,fun k h=>.inl ⟨k,h,rfl⟩,fun _ _=>rfl,Nat.le_refl _,fun _ _=>Nat.le_refl _,
   fun _ _ _=>⟨rfl,rfl⟩,fun _ _=>rfl,fun _ h=>.inl ⟨h,rfl⟩,Nat.le_refl _,fun _ _=>rfl,fun _ h1 h2=>absurd h2 (by omega),fun b hb _ _ _=>⟨hheap b hb,rfl⟩⟩
 refine⟨hst,fun b hb=>hH.base b (by omega),hH.nb,hH.nt,hH.nl,fun k hk hh=> ?_,hH.μinj,hH.μlim,fun t ht=> ?_,hH.τinj,hH.μτ,fun l hl=> ?_,hH.linj,hH.glob.step hst⟩
 ·obtain⟨us,e,h,h1,h2⟩:=hH.box k hk hh
  exact⟨us,e,by rw[hheap _ (Array.getElem?_eq_some_iff.1 h).1];exact h,h1,fun i i1 i2=>(h2 i i1 i2).step hst⟩
 ·obtain⟨h0,us,e,h,h1⟩:=hH.tok t ht
  exact⟨h0,us,e,by rw[hheap _ (Array.getElem?_eq_some_iff.1 h).1];exact h,h1⟩
 ·obtain⟨rec,h,h1⟩:=hH.loop l hl
  exact⟨rec,by rw[hheap _ (Array.getElem?_eq_some_iff.1 h).1];exact h,h1.keep hst.keep⟩
theorem free_step{b:Nat}(hf:Free G b)(hb:b<w.heap.size)(hst:Step G w G' w2)(hlt:∀t,t<G.nt→G.τ t<w.heap.size):Free G' b∧w2.heap[b]?=w.heap[b]?:=by
 obtain⟨h0,h1,h2,h3⟩:=hf
 obtain⟨f1,f2⟩:=hst.frame b hb h1 h2 h3
 refine⟨⟨by rw[f2];exact h0,fun k hk e=> ?_,fun t ht e=> ?_,fun l hl e=> ?_⟩,f1⟩
 ·rcases hst.μnew k hk with⟨j,hj,e2⟩|h
  ·exact h1 j hj (e.trans e2)
  ·omega
 ·rcases hst.τnew t ht with⟨ht',e'⟩|h
  ·rw[e']at e;exact h2 t ht' e
  ·omega
 ·rcases Nat.lt_or_ge l G.nl with hl'|hl'
  ·rw[hst.ln l hl']at e;exact h3 l hl' e
  ·have:=hst.lnew l hl' hl;omega
theorem poke{b:Nat}(hf:Free G' b)(hbase:Base G w)(hb:w.heap.size≤b)(hst:Step G w G' w2)(hH2:HRep P G' w2 H')(hother:∀k,k≠b→w3.heap[k]?=w2.heap[k]?)(hsz:w3.heap.size=w2.heap.size)
 (hgl:Glob P G w)
 (hos:w3.os=w2.os)(htape:w3.tape=w2.tape)(hout:w3.output=w2.output):Step G w G' w3∧HRep P G' w3 H':=by
 obtain⟨h0,h1,h2,h3⟩:=hf
 have hkeep:Keep G' w2 G' w3:=
  ⟨fun _=>Nat.le_refl _,fun c off h=>by
    have:c≠b:=fun e=>by subst e;omega
    unfold World.cell?
    rw[hother c this],Nat.le_refl _,fun _ h=>h,fun _ _=>rfl,Nat.le_refl _,fun _ _=>Nat.le_refl _,fun _ _ _=>⟨rfl,rfl⟩,fun _ _=>rfl,Nat.le_refl _,fun _ _=>rfl,fun _ _=>rfl⟩
 refine⟨⟨hos.trans hst.os,htape.trans hst.tape,hout.trans hst.output,by rw[hsz];exact hst.size,hst.lim,fun c off h=> ?_,hst.nb,hst.hole,hst.μ,hst.μnew,hst.mc,hst.nt,hst.ext,hst.τ,hst.tes,hst.τnew,hst.nl,hst.ln,hst.lnew,fun c hc a1 a2 a3=> ?_⟩,
  fun c hc=>hH2.base c (by omega),hH2.nb,hH2.nt,hH2.nl,fun k hk hh=> ?_,hH2.μinj,hH2.μlim,fun t ht=> ?_,hH2.τinj,hH2.μτ,fun l hl=> ?_,hH2.linj,fun sp hs g hg=>by
   obtain⟨g1,cs,e,m,g4,g5⟩:=hH2.glob sp hs g hg
   obtain⟨_,_,_,_,q4,_⟩:=hgl sp hs g hg
   have:=(Array.getElem?_eq_some_iff.1 q4).1
   exact⟨g1,cs,e,m,by rw[hother g (by omega)];exact g4,g5⟩⟩
 ·rw[←hst.cell c off h]
  exact hkeep.cell c off (Nat.lt_of_lt_of_le h (hst.lim c))
 ·obtain⟨e1,e2⟩:=hst.frame c hc a1 a2 a3
  exact⟨by rw[hother c (by omega)];exact e1,e2⟩
 ·obtain⟨us,e,h,g1,g2⟩:=hH2.box k hk hh
  exact⟨us,e,by rw[hother _ (Ne.symm (h1 k ⟨by rw[hH2.nb];exact hk,hh⟩))];exact h,g1,fun i i1 i2=>(g2 i i1 i2).keep hkeep⟩
 ·obtain⟨g0,us,e,h,g1⟩:=hH2.tok t ht
  exact⟨g0,us,e,by rw[hother _ (Ne.symm (h2 t (by rw[hH2.nt];exact ht)))];exact h,g1⟩
 ·obtain⟨rec,h,g1⟩:=hH2.loop l hl
  exact⟨rec,by rw[hother _ (Ne.symm (h3 l (by rw[hH2.nl];exact hl)))];exact h,g1.keep hkeep⟩
theorem tok_lt(hH:HRep P G w H):∀t,t<G.nt→G.τ t<w.heap.size:=fun t ht=>by
 obtain⟨_,us,u,h,_⟩:=hH.tok t (by rw[←hH.nt];exact ht)
 exact(Array.getElem?_eq_some_iff.1 h).1
end Go.Aa
set_option linter.unusedVariables false
set_option linter.unusedSimpArgs false
namespace Go.Aa
open Go.RowKit
variable{P:Program}{G:Ghost}{w w':World}{H:Heap}
theorem below_step(hH:HRep P G w H)(hB:Below w.heap.size w w'):Step G w G w'∧HRep P G w' H:=by
 have hheap:∀b,b<w.heap.size→w'.heap[b]?=w.heap[b]?:=fun b hb=>hB.block b hb
 have hcell:∀b off,off<G.lim b→w'.cell? ⟨b,off,none⟩=w.cell? ⟨b,off,none⟩:=fun b off h=>by
  have hb:b<w.heap.size:=by
   rcases Nat.lt_or_ge b w.heap.size with h1|h1
   ·exact h1
   ·rw[hH.base b h1]at h;omega
  unfold World.cell?
  rw[hheap b hb]
 have hst:Step G w G w':=
  ⟨hB.os,hB.tape,hB.output,hB.size,fun _=>Nat.le_refl _,hcell,Nat.le_refl _,fun _ _=>rfl,fun _ _=>rfl,fun k h=>.inl ⟨k,h,rfl⟩,fun _ _=>rfl,Nat.le_refl _,fun _ _=>Nat.le_refl _,
   fun _ _ _=>⟨rfl,rfl⟩,fun _ _=>rfl,fun _ h=>.inl ⟨h,rfl⟩,Nat.le_refl _,fun _ _=>rfl,fun _ h1 h2=>absurd h2 (by omega),fun b hb _ _ _=>⟨hheap b hb,rfl⟩⟩
 refine⟨hst,fun b hb=>hH.base b (by have:=hB.size;omega),hH.nb,hH.nt,hH.nl,fun k hk hh=> ?_,hH.μinj,hH.μlim,fun t ht=> ?_,hH.τinj,hH.μτ,fun l hl=> ?_,hH.linj,hH.glob.step hst⟩
 ·obtain⟨us,e,h,h1,h2⟩:=hH.box k hk hh
  exact⟨us,e,by rw[hheap _ (Array.getElem?_eq_some_iff.1 h).1];exact h,h1,fun i i1 i2=>(h2 i i1 i2).step hst⟩
 ·obtain⟨h0,us,e,h,h1⟩:=hH.tok t ht
  exact⟨h0,us,e,by rw[hheap _ (Array.getElem?_eq_some_iff.1 h).1];exact h,h1⟩
 ·obtain⟨rec,h,h1⟩:=hH.loop l hl
  exact⟨rec,by rw[hheap _ (Array.getElem?_eq_some_iff.1 h).1];exact h,h1.keep hst.keep⟩
theorem args_two{vs:Array Value}{x y:AV}(h:Args G w vs [x,y]):∃u v,vs= #[u,v]∧Rep G w u x∧Rep G w v y:=by
 obtain⟨h1,h2⟩:=h
 have hs:vs.size=2:=by simpa using h1
 refine⟨vs[0],vs[1],?_,by simpa using h2 0 (by omega) (by simp),by simpa using h2 1 (by omega) (by simp)⟩
 apply Array.ext
 ·simpa using hs
 ·intro i i1 i2
  have:i=0∨i=1:=by omega
  rcases this with rfl|rfl<;>rfl
theorem str_inv{v:Value}{s:List UInt8}(h:Rep G w v (.str s)):v=.string ⟨s.toArray⟩:=by cases h;rfl
def Enters(P:Program)(f:FuncId):Prop:=∀vs w,(callFunc f vs).run P w=.ok (.enter f vs) w
def indexE(xs:List AV)(H:Heap):Option (AV×Heap):=match xs with
 |[.str s,.str [c]]=>some (.int .i64 (Lib.indexByte s c),H)
 |_=>none
def trimE(xs:List AV)(H:Heap):Option (AV×Heap):=match xs with
 |[.str s,.str cs]=>if s.length≤9223372036854775807∧cs.length<4294967281∧cs.all (fun b=>decide (b.toNat<128))=true then some (.str (Lib.trimS s cs),H)else none
 |_=>none
def strsA:List AV→Option (List (List UInt8))
 |[]=>some []
 |.str s::xs=>(strsA xs).map (s::·)
 |_=>none
def joinE(xs:List AV)(H:Heap):Option (AV×Heap):=match xs with
 |[.sl k l,.str sep]=>match strsA l with
  |some ss=>if ss.length≤140737488355328∧(Lib.join ss sep).length≤140737488355328 then some (.str (Lib.join ss sep),H)else none
  |none=>none
 |_=>none
theorem ext_index{f:FuncId}(hf:Enters P f)(h:∀(s:ByteArray)(c:UInt8)(w:World),Calls P f #[.string s,.string ⟨#[c]⟩] w fun e w'=>e=.returned (.int .i64 (Lib.indexByte s.data.toList c))∧w'=w):ExtOk P f indexE:=by
 intro xs H v H' hg G w vs hH hargs
 unfold indexE at hg
 split at hg<;>simp only[Option.some.injEq,Prod.mk.injEq,reduceCtorEq]at hg
 rename_i s c
 obtain⟨rfl,rfl⟩:=hg
 obtain⟨u,u',rfl,h1,h2⟩:=args_two hargs
 cases str_inv h1
 cases str_inv h2
 refine .inl ⟨w,hf _ _,(h ⟨s.toArray⟩ c w).mono fun e w' hh=> ?_,rfl⟩
 obtain⟨rfl,rfl⟩:=hh
 exact⟨G,.refl _ _,hH,_,rfl,.int _ _⟩
theorem ext_trim{f:FuncId}(hf:Enters P f)(h:∀(s cutset:ByteArray)(w:World),s.size≤9223372036854775807→cutset.size<4294967281→(∀(j:Nat)(b:UInt8),cutset.data.toList[j]?=some b→b.toNat<128)→
 Calls P f #[.string s,.string cutset] w fun e w'=>e=.returned (.string ⟨(Lib.trimS s.data.toList cutset.data.toList).toArray⟩)∧Below w.heap.size w w'):ExtOk P f trimE:=by
 intro xs H v H' hg G w vs hH hargs
 unfold trimE at hg
 split at hg
 ·rename_i s cs
  split at hg<;>simp only[Option.some.injEq,Prod.mk.injEq,reduceCtorEq]at hg
  rename_i hc
  obtain⟨rfl,rfl⟩:=hg
  obtain⟨u,u',rfl,h1,h2⟩:=args_two hargs
  cases str_inv h1
  cases str_inv h2
  refine .inl ⟨w,hf _ _,(h ⟨s.toArray⟩ ⟨cs.toArray⟩ w hc.1 hc.2.1 fun j b hb=> ?_).mono fun e w' hh=> ?_,rfl⟩
  ·have:=List.all_eq_true.1 hc.2.2 b (List.mem_of_getElem? hb)
   simpa using this
  ·obtain⟨rfl,hB⟩:=hh
   obtain⟨s1,s2⟩:=below_step hH hB
   exact⟨G,s1,s2,_,rfl,.str _⟩
 ·cases hg
theorem strsA_inv:∀{l:List AV}{ss:List (List UInt8)},strsA l=some ss→l=ss.map .str
 |[],ss,h=>by simp only[strsA,Option.some.injEq]at h;subst h;rfl
 |x::l,ss,h=>by
  cases x with
  |str s=>
   simp only[strsA]at h
   cases hl:strsA l with
   |none=>rw[hl]at h;cases h
   |some ss'=>
    rw[hl]at h
    simp only[Option.map_some,Option.some.injEq]at h
    subst h
    rw[strsA_inv hl];rfl
  |_=>cases h
theorem ext_join{f:FuncId}(hf:Enters P f)
 (h0:∀(a:Option Addr)(c:Nat)(sep:ByteArray)(w:World),Calls P f #[.slice a 0 c,.string sep] w fun e w'=>e=.returned (.string ⟨#[]⟩)∧w'=w)
 (h:∀(bk o c:Nat)(xs:List ByteArray)(sep:ByteArray)(w:World),(∀(j:Nat)x,xs[j]?=some x→w.cell? ⟨bk,o+j,none⟩=some (.string x))→bk<w.heap.size→xs.length≤140737488355328→xs.length≤c→
   (Lib.join (xs.map (·.data.toList)) sep.data.toList).length≤140737488355328→
   Calls P f #[.slice (some ⟨bk,o,none⟩) xs.length c,.string sep] w fun e w'=>e=.returned (.string ⟨(Lib.join (xs.map (·.data.toList)) sep.data.toList).toArray⟩)∧Below w.heap.size w w'):ExtOk P f joinE:=by
 intro xs H v H' hg G w vs hH hargs
 unfold joinE at hg
 split at hg
 ·rename_i k l sep
  split at hg
  ·rename_i ss hss
   split at hg<;>simp only[Option.some.injEq,Prod.mk.injEq,reduceCtorEq]at hg
   rename_i hc
   obtain⟨rfl,rfl⟩:=hg
   obtain⟨u,u',rfl,h1,h2⟩:=args_two hargs
   cases str_inv h2
   have hl:=strsA_inv hss
   cases h1 with
   |sl0 a c _ _ _=>
    have:ss=[]:=by cases ss with|nil=>rfl|cons s ss=>cases hl
    subst this
    refine .inl ⟨w,hf _ _,(h0 a c ⟨sep.toArray⟩ w).mono fun e w' hh=> ?_,rfl⟩
    obtain⟨rfl,rfl⟩:=hh
    exact⟨G,.refl _ _,hH,_,rfl,.str _⟩
   |sl a c _ _ es us hne hlc hcm hs hes he0 hd hlim hcell hrep hfull hown=>
    subst hl
    have hlen:0<ss.length:=by cases ss with|nil=>exact absurd rfl hne|cons s ss=>simp
    have he1:es=1:=by
     have:=hes 0 (by simpa using hlen)
     simp only[List.getElem_map,AV.cells,List.length_singleton]at this
     exact this.symm
    subst he1
    have hval:∀i(hi:i<ss.length),us i 0=.string ⟨ss[i].toArray⟩:=fun i hi=>by
     have:=hrep i (by simpa using hi) 0 (by simp[AV.cells])
     simp only[List.getElem_map,AV.cells,List.getElem_cons_zero]at this
     exact str_inv this
    obtain⟨bk,o,spot⟩:=a
    simp only at hs
    subst hs
    have hc0:∀i(hi:i<ss.length),w.cell? ⟨bk,o+i,none⟩=some (.string ⟨ss[i].toArray⟩):=fun i hi=>by
     have:=hcell i (by simpa using hi) 0 (by omega)
     rw[hval i hi]at this
     rw[←this]
     simp[Addr.add]
     split<;>simp_all
    have hbk:bk<w.heap.size:=by
     have:=hc0 0 hlen
     unfold World.cell? at this
     split at this
     ·rename_i hh;exact(Array.getElem?_eq_some_iff.1 hh).1
     ·cases this
    have e1:(ss.map (fun s=>(⟨s.toArray⟩:ByteArray))).map (fun x=>x.data.toList)=ss:=by
     rw[List.map_map];conv=>rhs;rw[←List.map_id ss]
     exact List.map_congr_left fun s _=>rfl
    have hcall:=h bk o c (ss.map fun s=>⟨s.toArray⟩) ⟨sep.toArray⟩ w (fun j x hx=>by
     rw[List.getElem?_map]at hx
     cases hj:ss[j]? with
     |none=>rw[hj]at hx;cases hx
     |some s=>
      rw[hj]at hx
      simp only[Option.map_some,Option.some.injEq]at hx
      subst hx
      obtain⟨hj1,rfl⟩:=List.getElem?_eq_some_iff.1 hj
      exact hc0 j hj1) hbk (by simpa using hc.1) (by simpa using hlc) (by rw[e1];exact hc.2)
    rw[e1]at hcall
    simp only[List.length_map]at hcall⊢
    refine .inl ⟨w,hf _ _,hcall.mono fun e w' hh=> ?_,rfl⟩
    obtain⟨rfl,hB⟩:=hh
    obtain⟨s1,s2⟩:=below_step hH hB
    exact⟨G,s1,s2,_,rfl,.str _⟩
  ·cases hg
 ·cases hg
end Go.Aa
set_option linter.unusedVariables false
set_option linter.unusedSimpArgs false
namespace Go.Aa
open Go.RowKit
variable{P:Program}{G:Ghost}{w w':World}{H:Heap}
def insS(x:List UInt8):List (List UInt8)→List (List UInt8)
 |[]=>[x]
 |y::l=>bif Op.bytesLess y x then y::insS x l else x::y::l
def isort:List (List UInt8)→List (List UInt8)
 |[]=>[]
 |x::l=>insS x (isort l)
theorem insS_perm(x:List UInt8):∀l,(insS x l).Perm (x::l)
 |[]=>.refl _
 |y::l=>by
  unfold insS
  cases Op.bytesLess y x
  ·exact .refl _
  ·exact((insS_perm x l).cons y).trans (.swap x y l)
theorem isort_perm:∀l,(isort l).Perm l
 |[]=>.refl _
 |x::l=>(insS_perm x _).trans ((isort_perm l).cons x)
theorem le_less{x y:List UInt8}(h:Op.bytesLess y x=false):x≤y:=by
 rw[Go.Proofs.bytesLess_eq]at h
 simpa using h
theorem insS_sorted(x:List UInt8):∀{l:List (List UInt8)},l.Pairwise (·≤·)→(insS x l).Pairwise (·≤·)
 |[],_=>by simp[insS]
 |y::l,h=>by
  have h1:∀{z},z∈l→y≤z:=fun hz=>List.rel_of_pairwise_cons h hz
  have h2:=List.Pairwise.of_cons h
  unfold insS
  cases hb:Op.bytesLess y x with
  |false=>
   refine List.Pairwise.cons (fun z hz=> ?_) h
   rcases List.mem_cons.1 hz with rfl|hz
   ·exact le_less hb
   ·exact List.le_trans (le_less hb) (h1 hz)
  |true=>
   refine List.Pairwise.cons (fun z hz=> ?_) (insS_sorted x h2)
   rcases List.mem_cons.1 ((insS_perm x l).mem_iff.1 hz)with rfl|hz
   ·rw[Go.Proofs.bytesLess_eq,decide_eq_true_eq]at hb
    exact List.le_of_lt hb
   ·exact h1 hz
theorem isort_sorted:∀l,(isort l).Pairwise (·≤·)
 |[]=>.nil
 |x::l=>insS_sorted x (isort_sorted l)
theorem isort_eq(l:List (List UInt8)):(l.mergeSort fun x y=>decide (x≤y))=isort l:=by
 refine List.Perm.eq_of_pairwise (le:=fun a b=>a≤b) (fun a b _ _ h1 h2=>List.le_antisymm h1 h2) ?_ (isort_sorted l) ((List.mergeSort_perm l _).trans (isort_perm l).symm)
 have:=List.pairwise_mergeSort (le:=fun x y:List UInt8=>decide (x≤y)) (fun a b c h1 h2=>by simp only[decide_eq_true_eq]at*;exact List.le_trans h1 h2)
  (fun a b=>by simp only[Bool.or_eq_true,decide_eq_true_eq];exact List.le_total a b) l
 exact this.imp fun h=>by simpa using h
theorem isort_length(l:List (List UInt8)):(isort l).length=l.length:=(isort_perm l).length_eq
def sortE(xs:List AV)(H:Heap):Option (AV×Heap):=match xs with
 |[.msl k off n es]=>match H.boxes[k]? with
  |some cs=>if off=0∧es=1∧0<n∧n≤cs.length∧n≤140737488355328 then(match strsA (cs.take n)with
   |some ss=>some (.tuple [],{H with boxes:=H.boxes.set k ((isort ss).map .str++cs.drop n)})
   |none=>none)else none
  |none=>none
 |[.sl _ []]=>some (.tuple [],H)
 |_=>none
theorem args_1{vs:Array Value}{x:AV}(h:Args G w vs [x]):∃u,vs= #[u]∧Rep G w u x:=by
 obtain⟨h1,h2⟩:=h
 have hs:vs.size=1:=by simpa using h1
 refine⟨vs[0],?_,by simpa using h2 0 (by omega) (by simp)⟩
 apply Array.ext
 ·simpa using hs
 ·intro i i1 i2
  have:i=0:=by omega
  subst this;rfl
theorem box_turn{k:Nat}{cs xs:List AV}{us us':Array Value}{e:TypeId}{vs:List Value}(hH:HRep P G w H)(hk:G.on k)(hcs:H.boxes[k]?=some cs)(hne:cs≠[])(hb:w.heap[G.μ k]?=some (.cells us e (0,0)))
 (hle:xs.length≤cs.length)(hvr:ARep G w vs xs)(hcell:xs.all cellOk=true)(hus:us'.toList=vs++us.toList.drop vs.length)
 (h1:w'.os=w.os)(h2:w'.tape=w.tape)(h3:w'.output=w.output)(h4:w.heap.size≤w'.heap.size)(h5:w'.heap[G.μ k]?=some (.cells us' e (0,0)))(h6:∀b,b<w.heap.size→b≠G.μ k→w'.heap[b]?=w.heap[b]?):
 Step G w G w'∧HRep P G w' {H with boxes:=H.boxes.set k (xs++cs.drop xs.length)}:=by
 obtain⟨w1,hr,s1,s2⟩:=write_box (off:=0) hH hk hcs hne (by omega) hvr hcell
 obtain⟨hlt,hcs'⟩:=List.getElem?_eq_some_iff.1 hcs
 obtain⟨us0,e0,hb0,⟨hsz,hmc⟩,-⟩:=hH.box k hlt hk.2
 rw[hb]at hb0
 simp only[Option.some.injEq,Obj.cells.injEq]at hb0
 obtain⟨rfl,rfl,-⟩:=hb0
 rw[hcs']at hsz
 have hone:∀c∈vs,c.oneCell'=true:=by
  intro c hc
  obtain⟨i,hi,rfl⟩:=List.getElem_of_mem hc
  have hi2:i<xs.length:=by rw[←hvr.1];exact hi
  exact(hvr.2 i hi hi2).one (List.all_eq_true.1 hcell _ (List.getElem_mem hi2))
 have hrun:=run_storeCells_at P (G.μ k) 0 e vs 0 us w hb (by have:=hvr.1;omega) hone
 simp only[Nat.add_zero,List.take_zero,List.nil_append,Nat.zero_add]at hrun
 rw[hrun]at hr
 simp only[Result.ok.injEq,true_and]at hr
 rw[←hus,Array.toArray_toList]at hr
 have e1:paste cs 0 xs=xs++cs.drop xs.length:=by rw[paste_spec _ _ _ (by omega)];simp
 rw[e1]at s2
 have hB:Below w1.heap.size w1 w':=by
  rw[←hr]
  refine⟨h1,h2,h3,by simpa using h4,fun b hb'=> ?_⟩
  by_cases eb:b=G.μ k
  ·subst eb
   rw[h5]
   exact(setRow_heap w (G.μ k) us us' e (0,0) hb).symm
  ·rw[setRow_other _ _ _ _ eb]
   exact h6 b (by simpa using hb') eb
 obtain⟨t1,t2⟩:=below_step s2 hB
 exact⟨s1.trans t1,t2⟩
theorem ext_sort {f : FuncId} (hf : Enters P f)
 (h0 : ∀ (a : Option Addr) (c : Nat) (w : World), Calls P f #[.slice a 0 c] w fun e w' => e = .returned (.tuple #[]) ∧ w' = w)
 (h : ∀ (blk off cap : Nat) (ss : List (List UInt8)) (w : World), Sort.Holds Proofs.encStr w blk off ss.toArray → blk < w.heap.size → ss.length < 4611686018427387904 →
   Calls P f #[.slice (some ⟨blk, off, none⟩) ss.length cap] w fun e w' => e = .returned (.tuple #[]) ∧ ∃ n os, w' = Sort.grow (Sort.putRow Proofs.encStr (Sort.ahead w n) blk off (ss.mergeSort fun x y => decide (x ≤ y)).toArray) os) : ExtOk P f sortE := by
 intro az H v H' hg G w vs hH hargs
 unfold sortE at hg
 split at hg
 · rename_i k off n es
   split at hg
   · rename_i cs hcs
     split at hg
     · rename_i hc
       obtain ⟨rfl, rfl, hn0, hn, hbig⟩ := hc
       split at hg
       · rename_i ss hss
         simp only [Option.some.injEq, Prod.mk.injEq] at hg
         obtain ⟨rfl, rfl⟩ := hg
         obtain ⟨u, rfl, hr⟩ := args_1 hargs
         cases hr with
         | msl _ _ _ c _ hk hnc hcm he0 hcap =>
         obtain ⟨hlt, hcs'⟩ := List.getElem?_eq_some_iff.1 hcs
         obtain ⟨us, e, hb, ⟨hsz, hmc⟩, hrep⟩ := hH.box k hlt hk.2
         rw [hcs'] at hsz hrep
         have hl := strsA_inv hss
         have hsl : ss.length = n := by
          have := congrArg List.length hl
          simp only [List.length_take, List.length_map] at this
          omega
         have hat : ∀ j (hj : j < ss.length), us[j]? = some (.string ⟨(ss[j]).toArray⟩) := fun j hj => by
          have h1 : (cs.take n)[j]? = some (.str ss[j]) := by rw [hl, List.getElem?_map, List.getElem?_eq_getElem hj]; rfl
          rw [List.getElem?_take, if_pos (by omega)] at h1
          obtain ⟨h2, h3⟩ := List.getElem?_eq_some_iff.1 h1
          have := hrep j (by omega) h2
          rw [h3] at this
          rw [Array.getElem?_eq_getElem (by omega), str_inv this]
         have hHo : Sort.Holds Proofs.encStr w (G.μ k) 0 ss.toArray := fun j hj => by
          have hj' : j < ss.length := by simpa using hj
          have h1 := hat j hj'
          constructor
          · simp only [World.cell?, hb, Option.isSome_none, Bool.false_eq_true, if_false, Nat.zero_add]
            rw [h1, getElem!_pos ss.toArray j hj]
            simp [Proofs.encStr]
          · simp [World.frozen?, hb]
         have hcall := h (G.μ k) 0 c ss w hHo (Array.getElem?_eq_some_iff.1 hb).1 (by omega)
         rw [hsl] at hcall
         refine .inl ⟨w, hf _ _, hcall.mono fun e1 w' hh => ?_, rfl⟩
         obtain ⟨rfl, m, os, rfl⟩ := hh
         rw [isort_eq]
         have hil := isort_length ss
         have hone : ∀ j (hj : j < (isort ss).length), ((isort ss).toArray)[j]! = (isort ss)[j] := fun j hj => by
          rw [getElem!_pos (isort ss).toArray j (by simpa using hj)]; simp
         obtain ⟨s1, s2⟩ := box_turn (w' := Sort.grow (Sort.putRow Proofs.encStr (Sort.ahead w m) (G.μ k) 0 (isort ss).toArray) os) (xs := (isort ss).map .str) (vs := (isort ss).map fun s => Value.string ⟨s.toArray⟩)
          (us' := Sort.putCells Proofs.encStr 0 (isort ss).toArray us) hH hk hcs (by intro e; rw [e] at hn; simp at hn; omega) hb (by simp; omega)
          ⟨by simp, fun i i1 i2 => by simp only [List.getElem_map]; exact .str _⟩ (List.all_eq_true.2 fun x hx => by obtain ⟨s, -, rfl⟩ := List.mem_map.1 hx; rfl)
          (by
            apply List.ext_getElem?
            intro q
            simp only [Sort.putCells, Array.getElem?_toList, Array.getElem?_mapIdx, List.size_toArray, Nat.zero_le, true_and, Nat.zero_add, Nat.sub_zero]
            by_cases hq : q < (isort ss).length
            · rw [List.getElem?_append_left (by simpa using hq)]
              rw [Array.getElem?_eq_getElem (by omega)]
              simp only [Option.map_some, if_pos hq, hone q hq, List.getElem?_map, List.getElem?_eq_getElem hq]
            · rw [List.getElem?_append_right (by simpa using hq)]
              simp only [List.length_map, List.getElem?_drop, Array.getElem?_toList]
              rw [show (isort ss).length + (q - (isort ss).length) = q by omega]
              cases us[q]? with
              | none => rfl
              | some x => simp [hq])
          rfl rfl rfl (by simp [Sort.grow, Sort.putRow, Sort.mapBlock, Sort.ahead])
          (by
            have hlt2 : G.μ k < (Sort.putRow Proofs.encStr (Sort.ahead w m) (G.μ k) 0 (isort ss).toArray).heap.size := by simp [Sort.putRow, Sort.mapBlock, Sort.ahead]; exact (Array.getElem?_eq_some_iff.1 hb).1
            rw [Sort.heap_grow_old _ _ hlt2]
            simp only [Sort.putRow, Sort.mapBlock, Sort.ahead, Array.getElem?_modify, if_true, hb, Option.map_some, Sort.onCells])
          (fun b hb1 hb2 => by
            have hlt2 : b < (Sort.putRow Proofs.encStr (Sort.ahead w m) (G.μ k) 0 (isort ss).toArray).heap.size := by simp [Sort.putRow, Sort.mapBlock, Sort.ahead]; exact hb1
            rw [Sort.heap_grow_old _ _ hlt2]
            simp only [Sort.putRow, Sort.mapBlock, Sort.ahead, Array.getElem?_modify, if_neg (Ne.symm hb2)])
         refine ⟨G, s1, ?_, _, rfl, .tuple _ _ rfl (fun i h1 => absurd h1 (by simp))⟩
         rw [List.length_map, hil, hsl] at s2
         exact s2
       · cases hg
     · cases hg
   · cases hg
 · simp only [Option.some.injEq, Prod.mk.injEq] at hg
   obtain ⟨rfl, rfl⟩ := hg
   obtain ⟨u, rfl, hr⟩ := args_1 hargs
   cases hr with
   | sl0 a c =>
     refine .inl ⟨w, hf _ _, (h0 a c w).mono fun e1 w' hh => ?_, rfl⟩
     obtain ⟨rfl, rfl⟩ := hh
     exact ⟨G, .refl _ _, hH, _, rfl, .tuple _ _ rfl (fun i h1 => absurd h1 (by simp))⟩
   | sl _ _ _ _ _ _ hl => exact absurd rfl hl
 · cases hg
end Go.Aa
set_option linter.unusedVariables false
set_option linter.unusedSimpArgs false
namespace Go.Aa
end Go.Aa
set_option linter.unusedVariables false
set_option linter.unusedSimpArgs false
namespace Go.Aa
open Go.RowKit
variable{P:Program}{G:Ghost}{w w':World}{H:Heap}
def decF:Nat→Nat→List UInt8
 |0,_=>[]
 |n+1,u=>if u<10 then [UInt8.ofNat (48+u)]else decF n (u/10)++[UInt8.ofNat (48+u%10)]
theorem decF_eq:∀(n u:Nat),u<10^n→0<n→decF n u=Lib.decDigits u
 |0,_,_,h=>absurd h (by omega)
 |n+1,u,h,_=>by
  unfold decF
  rw[Lib.decDigits]
  by_cases hu:u<10
  ·rw[if_pos hu,dif_pos hu]
  ·rw[if_neg hu,dif_neg hu]
   have h2:u/10<10^n:=by
    rw[Nat.pow_succ]at h
    exact Nat.div_lt_of_lt_mul (by rw[Nat.mul_comm];exact h)
   have hn:0<n:=by
    rcases Nat.eq_zero_or_pos n with rfl|h3
    ·simp only[Nat.pow_zero]at h2;omega
    ·exact h3
   rw[decF_eq n (u/10) h2 hn]
def itoaF(n:Int):List UInt8:=if n<0 then 45::decF 20 n.natAbs else decF 20 n.toNat
theorem itoaF_eq{n:Int}(h0: -9223372036854775808≤n)(h1:n≤9223372036854775807):itoaF n=Lib.itoa n:=by
 unfold itoaF Lib.itoa
 have e:(10:Nat)^20=100000000000000000000:=by decide
 split
 ·rw[decF_eq 20 _ (by rw[e];omega) (by decide)]
 ·rw[decF_eq 20 _ (by rw[e];omega) (by decide)]
def fmtE(xs:List AV)(H:Heap):Option (AV×Heap):=match xs with
 |[.int k n,.int k2 b]=>if k=.i64∧k2=.i64∧b=10∧-9223372036854775808≤n∧n≤9223372036854775807 then some (.str (itoaF n),H)else none
 |_=>none
def parseE(T:TypeId)(xs:List AV)(H:Heap):Option (AV×Heap):=match xs with
 |[.str s,.int k b,.int k2 z]=>if k=.i64∧k2=.i64∧b=10∧z=64∧s.length≤281474976710656 then(match Lib.parseIntB 64 s with
  |.ok v=>some (.tuple [.int .i64 v,.nilIface],H)
  |Lib.NumEnd.syntax=>some (.tuple [.int .i64 0,.iface T .undef],H)
  |Lib.NumEnd.range=>some (.tuple [.int .i64 (Lib.intSat 64 s),.iface T .undef],H))else none
 |_=>none
theorem args_three{a b c:AV}{vs:Array Value}(h:Args G w vs [a,b,c]):∃x y z,vs= #[x,y,z]∧Rep G w x a∧Rep G w y b∧Rep G w z c:=by
 obtain⟨hs,h2⟩:=h
 simp only[List.length_cons,List.length_nil]at hs
 refine⟨vs[0],vs[1],vs[2],?_,by simpa using h2 0 (by omega) (by simp),by simpa using h2 1 (by omega) (by simp),by simpa using h2 2 (by omega) (by simp)⟩
 apply Array.ext
 ·simpa using hs
 ·intro i i1 i2
  have:i=0∨i=1∨i=2:=by omega
  rcases this with rfl|rfl|rfl<;>rfl
theorem int_inv{v:Value}{k:IntKind}{n:Int}(h:Rep G w v (.int k n)):v=.int k n:=by cases h;rfl
theorem glob_var(hH:HRep P G w H){s:String×(Array Value→Prop)}(hs:s∈globSpec){g:Nat}(hg:P.globalNamed s.1=some g):∃cs,w.var? P s.1=some cs∧s.2 cs:=by
 obtain⟨_,cs,e,m,h1,h2⟩:=hH.glob s hs g hg
 refine⟨cs,?_,h2⟩
 simp only[World.var?,hg,Option.bind_some,h1]
theorem glob_tab(hH:HRep P G w H){g:Nat}(hg:P.globalNamed "internal/strconv.uint64pow10" =some g):Lib.TabIs P w "internal/strconv.uint64pow10" .u64 Lib.pow10Tab:=by
 obtain⟨cs,h1,h2⟩:=glob_var hH (s:=("internal/strconv.uint64pow10",_)) (by unfold globSpec;exact List.mem_cons_self ..) hg
 unfold Lib.TabIs
 rw[h1];simp only at h2;rw[h2]
theorem glob_syntax(hH:HRep P G w H){g:Nat}(hg:P.globalNamed "strconv.ErrSyntax" =some g):∃tp p,w.var? P "strconv.ErrSyntax" =some #[.iface tp p]:=by
 obtain⟨cs,h1,tp,p,h2⟩:=glob_var hH (s:=("strconv.ErrSyntax",_)) (by unfold globSpec;exact List.mem_cons_of_mem _ (List.mem_cons_self ..)) hg
 exact⟨tp,p,by rw[h1,h2]⟩
theorem glob_range(hH:HRep P G w H){g:Nat}(hg:P.globalNamed "strconv.ErrRange" =some g):∃tp p,w.var? P "strconv.ErrRange" =some #[.iface tp p]:=by
 obtain⟨cs,h1,tp,p,h2⟩:=glob_var hH (s:=("strconv.ErrRange",_)) (by unfold globSpec;exact List.mem_cons_of_mem _ (List.mem_cons_of_mem _ (List.mem_cons_self ..))) hg
 exact⟨tp,p,by rw[h1,h2]⟩
theorem ext_fmt{f:FuncId}(hf:Enters P f){g:Nat}(hg:P.globalNamed "internal/strconv.uint64pow10" =some g)
 (h:∀(n:Int)(w:World),-9223372036854775808≤n→n≤9223372036854775807→Lib.TabIs P w "internal/strconv.uint64pow10" .u64 Lib.pow10Tab→Calls P f #[.int .i64 n,.int .i64 10] w fun e w'=>e=.returned (.string ⟨(Lib.itoa n).toArray⟩)∧Below w.heap.size w w'):ExtOk P f fmtE:=by
 intro xs H v H' hv G w vs hH hargs
 unfold fmtE at hv
 split at hv
 ·rename_i k n k2 b
  split at hv<;>simp only[Option.some.injEq,Prod.mk.injEq,reduceCtorEq]at hv
  rename_i hc
  obtain⟨rfl,rfl,rfl,c1,c2⟩:=hc
  obtain⟨rfl,rfl⟩:=hv
  obtain⟨u,u',rfl,h1,h2⟩:=args_two hargs
  cases int_inv h1
  cases int_inv h2
  refine .inl ⟨w,hf _ _,(h n w c1 c2 (glob_tab hH hg)).mono fun e w' hh=> ?_,rfl⟩
  obtain⟨rfl,hB⟩:=hh
  obtain⟨s1,s2⟩:=below_step hH hB
  exact⟨G,s1,s2,_,rfl,by rw[itoaF_eq c1 c2];exact .str _⟩
 ·cases hv
theorem rep_pair{a:Int}{t:TypeId}{v:Value}:Rep G w (.tuple #[.int .i64 a,.iface t v]) (.tuple [.int .i64 a,.iface t .undef]):=
 .tuple _ _ rfl (fun i h1 h2=>by
  have:i=0∨i=1:=by simp at h1;omega
  rcases this with rfl|rfl
  ·exact .int _ _
  ·exact .iface _ _ _ (.undef _))
theorem ext_parse{f:FuncId}{T:TypeId}(hf:Enters P f){g1 g2:Nat}(hg1:P.globalNamed "strconv.ErrSyntax" =some g1)(hg2:P.globalNamed "strconv.ErrRange" =some g2)
 (h:∀(s:ByteArray)(v:Int)(w:World),s.size≤281474976710656→Lib.parseIntB 64 s.data.toList=.ok v→Calls P f #[.string s,.int .i64 10,.int .i64 64] w fun e w'=>e=.returned (.tuple #[.int .i64 v,.nilIface])∧Below w.heap.size w w')
 (hS:∀(s:ByteArray)(w:World)tp p,s.size≤281474976710656→Lib.parseIntB 64 s.data.toList=Lib.NumEnd.syntax→w.var? P "strconv.ErrSyntax" =some #[.iface tp p]→Calls P f #[.string s,.int .i64 10,.int .i64 64] w fun e w'=>∃p,e=.returned (.tuple #[.int .i64 0,.iface T p])∧Below w.heap.size w w')
 (hR:∀(s:ByteArray)(w:World)tp p,s.size≤281474976710656→Lib.parseIntB 64 s.data.toList=Lib.NumEnd.range→w.var? P "strconv.ErrRange" =some #[.iface tp p]→Calls P f #[.string s,.int .i64 10,.int .i64 64] w fun e w'=>∃p,e=.returned (.tuple #[.int .i64 (Lib.intSat 64 s.data.toList),.iface T p])∧Below w.heap.size w w'):ExtOk P f (parseE T):=by
 intro xs H v H' hv G w vs hH hargs
 unfold parseE at hv
 split at hv
 ·rename_i s k b k2 z
  split at hv
  ·rename_i hc
   obtain⟨rfl,rfl,rfl,rfl,c1⟩:=hc
   obtain⟨u,u',u'',rfl,h1,h2,h3⟩:=args_three hargs
   cases str_inv h1
   cases int_inv h2
   cases int_inv h3
   have hz:(⟨s.toArray⟩:ByteArray).size≤281474976710656:=by simpa[ByteArray.size]using c1
   split at hv<;>simp only[Option.some.injEq,Prod.mk.injEq]at hv<;>obtain⟨rfl,rfl⟩:=hv
   ·rename_i v he
    refine .inl ⟨w,hf _ _,(h ⟨s.toArray⟩ v w hz (by simpa using he)).mono fun e w' hh=> ?_,rfl⟩
    obtain⟨rfl,hB⟩:=hh
    obtain⟨s1,s2⟩:=below_step hH hB
    exact⟨G,s1,s2,_,rfl,.tuple _ _ rfl (fun i h1 h2=>by
     have:i=0∨i=1:=by simp at h1;omega
     rcases this with rfl|rfl
     ·exact .int _ _
     ·exact .nilIface)⟩
   ·rename_i he
    obtain⟨tp,p,hvar⟩:=glob_syntax hH hg1
    refine .inl ⟨w,hf _ _,(hS ⟨s.toArray⟩ w tp p hz (by simpa using he) hvar).mono fun e w' hh=> ?_,rfl⟩
    obtain⟨q,rfl,hB⟩:=hh
    obtain⟨s1,s2⟩:=below_step hH hB
    exact⟨G,s1,s2,_,rfl,rep_pair⟩
   ·rename_i he
    obtain⟨tp,p,hvar⟩:=glob_range hH hg2
    refine .inl ⟨w,hf _ _,(hR ⟨s.toArray⟩ w tp p hz (by simpa using he) hvar).mono fun e w' hh=> ?_,rfl⟩
    obtain⟨q,rfl,hB⟩:=hh
    obtain⟨s1,s2⟩:=below_step hH hB
    exact⟨G,s1,s2,_,rfl,rep_pair⟩
  ·cases hv
 ·cases hv
end Go.Aa
set_option linter.unusedVariables false
set_option linter.unusedSimpArgs false
namespace Go.Aa
open Go.RowKit Go.ChangeShapes Go.WideShapes Go.ChangeAt
section
variable{H:Type}{enc:TypeId×Value→H}{P:Program}{w:World}{base:Nat}{sp:Nat→Bool}{held:Bool}{G:Ghost}
theorem mapM_len{α β:Type}{f:α→Option β}:∀{l:List α}{r:List β},l.mapM f=some r→r.length=l.length
 |[],r,h=>by cases h;rfl
 |x::l,r,h=>by
  rw[List.mapM_cons]at h
  cases hx:f x with
  |none=>rw[hx]at h;cases h
  |some y=>
   cases hl:l.mapM f with
   |none=>rw[hx,hl]at h;cases h
   |some ys=>
    rw[hx,hl]at h
    cases h
    simp[mapM_len hl]
theorem slice_sz{t e:TypeId}{v:Value}{d:DataW H}{ps:List MemPlace}{l:List AV}{k:SK}(hu:P.underlying t=some (.slice e))(hr:Rep G w v (.sl k l))(ht:DataW.Trod enc P w base sp held t v d ps)
 (hw:(d.weights P t).all (·≤reachBytes)=true):l.length*P.bytesOf e≤reachBytes:=by
 cases hr with
 |sl0=>simp
 |sl a c _ _ es us hl hc hcm hs hes he0 hd hlim hcell hrep hfull hown=>
  obtain⟨fuel,h⟩:=ht
  cases fuel with
  |zero=>cases h
  |succ fuel=>
   simp only[DataW.trod,hu,Value.cells]at h
   split at h
   ·cases he:(List.range l.length).mapM (fun i=>(w.cells? base (a.add (i*P.cellsOf e)) (P.cellsOf e)).bind (DataW.trod enc P w base sp held fuel e))with
    |none=>rw[he]at h;cases h
    |some elems=>
     rw[he,Option.bind_some,Option.map_eq_some_iff]at h
     obtain⟨rest,-,h⟩:=h
     cases h
     have e1:elems.length=l.length:=by rw[mapM_len he,List.length_range]
     simp only[DataW.weights,hu,List.all_cons,Bool.and_eq_true,decide_eq_true_eq,List.length_map]at hw
     have:=hw.1
     rw[e1]at this
     exact Nat.le_trans (Nat.mul_le_mul_right _ (Nat.le_add_right _ _)) this
   ·cases h
theorem str_sz{t:TypeId}{v:Value}{d:DataW H}{ps:List MemPlace}{s:List UInt8}(hu:P.underlying t=some .string)(hr:Rep G w v (.str s))(ht:DataW.Trod enc P w base sp held t v d ps)
 (hw:(d.weights P t).all (·≤reachBytes)=true):s.length≤reachBytes:=by
 cases hr with
 |str s=>
  obtain⟨fuel,h⟩:=ht
  cases fuel with
  |zero=>cases h
  |succ fuel=>
   simp only[DataW.trod,hu,Value.cells]at h
   split at h
   ·cases h
    simpa[DataW.weights]using hw
   ·cases h
def Sz1(P:Program)(t:TypeId)(x:AV):Prop:=(∀e k l,P.underlying t=some (.slice e)→x=.sl k l→l.length*P.bytesOf e≤reachBytes)∧(∀s,P.underlying t=some .string→x=.str s→s.length≤reachBytes)
def SzAll(P:Program):List TypeId→List AV→Prop
 |t::ts,x::xs=>Sz1 P t x∧SzAll P ts xs
 |_,_=>True
theorem all_sz:∀{ts us:List TypeId}{vs:List Value}{ds gs:List (DataW H)}{ps:List MemPlace}{xs:List AV},DataW.TrodAll enc P w base sp held ts vs ds ps→(DataW.weightsEach P (ts++us) (ds++gs)).all (·≤reachBytes)=true→
 (∀(i:Nat)v y,vs[i]?=some v→xs[i]?=some y→Rep G w v y)→SzAll P ts xs
 |[],_,_,_,_,_,_,_,_,_=>by unfold SzAll;trivial
 |t::ts,us,[],ds,gs,ps,xs,h,_,_=>h.elim
 |t::ts,us,v::vs,[],gs,ps,xs,h,_,_=>h.elim
 |t::ts,us,v::vs,d::ds,gs,ps,[],_,_,_=>by unfold SzAll;trivial
 |t::ts,us,v::vs,d::ds,gs,ps,x::xs,⟨p,q,h1,h2,_⟩,hw,hr=>by
  simp only[List.cons_append,DataW.weightsEach,List.all_append,Bool.and_eq_true]at hw
  refine⟨⟨fun e k l hu hx=> ?_,fun s hu hx=> ?_⟩,all_sz h2 hw.2 (fun i v y a b=>hr (i+1) v y a b)⟩
  ·subst hx;exact slice_sz hu (hr 0 _ _ rfl rfl) h1 hw.1
  ·subst hx;exact str_sz hu (hr 0 _ _ rfl rfl) h1 hw.1
theorem weights_left:∀{ts us:List TypeId}{ds gs:List (DataW H)},(DataW.weightsEach P (ts++us) (ds++gs)).all (·≤reachBytes)=true→(DataW.weightsEach P ts ds).all (·≤reachBytes)=true
 |[],_,_,_,_=>by simp[DataW.weightsEach]
 |_::_,_,[],_,_=>by simp[DataW.weightsEach]
 |t::ts,us,d::ds,gs,h=>by
  simp only[List.cons_append,DataW.weightsEach,List.all_append,Bool.and_eq_true]at h⊢
  exact⟨h.1,weights_left h.2⟩
theorem law_rowZ{cfg:Cfg}(hcfg:CfgOk P cfg){f:FuncId}(hF:(cfg.F f).isSome=true)(hx:cfg.ext f=none)(ht:cfg.tryF f=false){fn:Func}{s:ChangeSpec}{k:Nat}{tb:TypeId}{apart fresh handsOn again:Bool}
 (hpl:fn.params.toList.all (plainT P k)=true)(hrt:fn.resultTypes= #[tb])(hb:P.underlying tb=some .bool)(hsv:s.vars=[])
 (hfn:∀ds:List (DataW H),ds.length=fn.params.toList.length→s.fn H ds={results:=[.lit (.bool true)],args:=ds})
 (hlaw:∀xs,TyAll P k fn.params.toList xs→SzAll P fn.params.toList xs→∃H',lim cfg (.fn f) xs Heap.nil=some (.ret (.bool true),H'))
 {W:World}{base:Nat}{args:Array Value}{ds gs:List (DataW H)}{before:List MemPlace}
 (hval:∀(j:Nat)t v,fn.params[j]?=some t→args[j]?=some v→Value.okWide P W .any base t v)
 (hW:DataW.Whole enc P fn.params.toList s.vars apart W args.toList ds gs before)(hwt:(DataW.weightsEach P (fn.params.toList++s.plain.varTypes P) (ds++gs)).all (·≤reachBytes)=true)
 (hg:Glob0 P W:=by exact glob0_none (by kernel_rfl) W):
 Calls P f args W fun e W'=>∃v,e=.returned v∧s.post enc P fn apart fresh handsOn again W args v W':=by
 have hW':=hW
 obtain⟨p,q,hA,hV,rfl,hfz,hnd⟩:=hW
 rw[hsv]at hV
 obtain⟨rfl,rfl⟩:=trodVars_none hV
 rw[List.append_nil]at hW'
 obtain⟨xs,x1,x2,x3⟩:=all_rep (G:=GW W) GW_lim hpl (fun j t v a b=>hval j t v (by simpa using a) (by simpa using b)) hA (weights_left hwt)
 obtain⟨H',hl⟩:=hlaw xs x3 (all_sz hA hwt x2)
 obtain⟨n,hn⟩:=lim_iff.1 hl
 refine(calls_of hcfg hn hF hx ht (GW_heap W hg) ⟨by rw[x1];simp,fun i h1 h2=>x2 i _ _ (by simp[h1]) (List.getElem?_eq_getElem h2)⟩).mono fun e W'⟨u,G',he,hst,hr⟩=> ?_
 cases hr
 have hB:=step_below hst rfl rfl rfl
 obtain⟨l1,l2⟩:=all_len hA
 have hfn':=hfn ds l2
 refine⟨_,he,post_of_below (pa:=p) (pv:=[]) hW' ?_ ?_ ?_ (by simp) hB ?_⟩
 ·intro b sp hd
  rw[List.append_nil,hfn',hrt]
  exact trodAll_mk1 (shut_bool hb _)
 ·intro sp hsp
  rw[List.append_nil,hfn']
  exact all_shut hB hpl hsp hA
 ·intro sp hsp
  rw[List.append_nil,hfn',hsv]
  rfl
 ·exact ok_one hrt rfl (okWide_bool_mk hb _)
end
end Go.Aa
set_option linter.unusedVariables false
set_option linter.unusedSimpArgs false
namespace Go.Aa
def add64E(xs:List AV)(H:Heap):Option (AV×Heap):=match xs with
 |[.int .u64 x,.int .u64 y,.int .u64 c]=>if 0≤x∧0≤y∧(c=0∨c=1)then some (.tuple [.int .u64 ((x+y+c)%18446744073709551616),.int .u64 ((x+y+c)/18446744073709551616)],H)else none
 |_=>none
theorem ext_add64{P:Program}{f:FuncId}(h:∀(x y c:Nat),c≤1→∀w:World,(callFunc f #[.int .u64 x,.int .u64 y,.int .u64 c]).run P w=
 .ok (.value (.tuple #[.int .u64 (((x+y+c)%18446744073709551616:Nat):Int),.int .u64 (((x+y+c)/18446744073709551616:Nat):Int)])) w):ExtOk P f add64E:=by
 intro xs H v H' hg G w vs hH hargs
 unfold add64E at hg
 split at hg
 ·rename_i x y c
  split at hg
  ·rename_i hc
   simp only[Option.some.injEq,Prod.mk.injEq]at hg
   obtain⟨rfl,rfl⟩:=hg
   obtain⟨hx,hy,hc⟩:=hc
   obtain⟨u1,u2,u3,rfl,h1,h2,h3⟩:=args_three hargs
   cases int_inv h1
   cases int_inv h2
   cases int_inv h3
   have hl:=h x.toNat y.toNat c.toNat (by omega) w
   rw[show((x.toNat:Nat):Int)=x by omega,show((y.toNat:Nat):Int)=y by omega,show((c.toNat:Nat):Int)=c by omega]at hl
   refine .inr ⟨_,w,hl,G,.refl _ _,hH,_,rfl,?_⟩
   have e1:(((x.toNat+y.toNat+c.toNat)%18446744073709551616:Nat):Int)=(x+y+c)%18446744073709551616:=by omega
   have e2:(((x.toNat+y.toNat+c.toNat)/18446744073709551616:Nat):Int)=(x+y+c)/18446744073709551616:=by omega
   rw[e1,e2]
   exact .tuple _ _ rfl fun i h1 h2=>by
    have:i=0∨i=1:=by simp at h1;omega
    rcases this with rfl|rfl
    ·exact .int _ _
    ·exact .int _ _
  ·cases hg
 ·cases hg
end Go.Aa
set_option linter.unusedVariables false
set_option linter.unusedSimpArgs false
namespace Go.Aa
end Go.Aa
set_option linter.unusedVariables false
set_option maxRecDepth 100000
namespace Go.Aa.T
open Go.Aa
def extF:Nat→Option (List AV→Heap→Option (AV×Heap))
 |83=>some trimE
 |54=>some joinE
 |130=>some indexE
 |131=>some indexE
 |53=>some fmtE
 |108=>some (parseE 188)
 |124=>some sortE
 |126=>some add64E
 |_=>none
def isTry(f:Nat):Bool:=f==74
def cfg:Cfg:={F:=tabF,ext:=extF,tryF:=isTry,stopT:=145}
def okR:Option (ARes×Heap)→Bool
 |some (.ret (.bool b),_)=>b
 |_=>false
theorem known12:okR (callN cfg 3000 (.fn 12) [] Heap.nil)=true:=by kernel_rfl
theorem known_ret12:∃H',lim cfg (.fn 12) [] Heap.nil=some (.ret (.bool true),H'):=by
 have h:=known12
 unfold okR at h
 split at h
 ·rename_i b H' hc
  subst h
  exact⟨H',lim_of hc⟩
 ·cases h
theorem l4(xs:List AV)(H:Heap):lim cfg (.fn 4) xs H=runL cfg a4 [.c c4] (initEnv xs) H:=lim_fn rfl rfl rfl xs H
theorem l13(xs:List AV)(H:Heap):lim cfg (.fn 13) xs H=runL cfg a13 [.c c13] (initEnv xs) H:=lim_fn rfl rfl rfl xs H
theorem l14(xs:List AV)(H:Heap):lim cfg (.fn 14) xs H=runL cfg a14 [.c c14] (initEnv xs) H:=lim_fn rfl rfl rfl xs H
theorem l15(xs:List AV)(H:Heap):lim cfg (.fn 15) xs H=runL cfg a15 [.c c15] (initEnv xs) H:=lim_fn rfl rfl rfl xs H
theorem l16(xs:List AV)(H:Heap):lim cfg (.fn 16) xs H=runL cfg a16 [.c c16] (initEnv xs) H:=lim_fn rfl rfl rfl xs H
theorem l18(xs:List AV)(H:Heap):lim cfg (.fn 18) xs H=runL cfg a18 [.c c18] (initEnv xs) H:=lim_fn rfl rfl rfl xs H
theorem l19(xs:List AV)(H:Heap):lim cfg (.fn 19) xs H=runL cfg a19 [.c c19] (initEnv xs) H:=lim_fn rfl rfl rfl xs H
theorem l23(xs:List AV)(H:Heap):lim cfg (.fn 23) xs H=runL cfg a23 [.c c23] (initEnv xs) H:=lim_fn rfl rfl rfl xs H
theorem l32(xs:List AV)(H:Heap):lim cfg (.fn 32) xs H=runL cfg a32 [.c c32] (initEnv xs) H:=lim_fn rfl rfl rfl xs H
theorem l33(xs:List AV)(H:Heap):lim cfg (.fn 33) xs H=runL cfg a33 [.c c33] (initEnv xs) H:=lim_fn rfl rfl rfl xs H
theorem l34(xs:List AV)(H:Heap):lim cfg (.fn 34) xs H=runL cfg a34 [.c c34] (initEnv xs) H:=lim_fn rfl rfl rfl xs H
theorem l35(xs:List AV)(H:Heap):lim cfg (.fn 35) xs H=runL cfg a35 [.c c35] (initEnv xs) H:=lim_fn rfl rfl rfl xs H
theorem l36(xs:List AV)(H:Heap):lim cfg (.fn 36) xs H=runL cfg a36 [.c c36] (initEnv xs) H:=lim_fn rfl rfl rfl xs H
theorem l37(xs:List AV)(H:Heap):lim cfg (.fn 37) xs H=runL cfg a37 [.c c37] (initEnv xs) H:=lim_fn rfl rfl rfl xs H
theorem l75(xs:List AV)(H:Heap):lim cfg (.fn 75) xs H=runL cfg a75 [.c c75] (initEnv xs) H:=lim_fn rfl rfl rfl xs H
theorem l76(xs:List AV)(H:Heap):lim cfg (.fn 76) xs H=runL cfg a76 [.c c76] (initEnv xs) H:=lim_fn rfl rfl rfl xs H
theorem l77(xs:List AV)(H:Heap):lim cfg (.fn 77) xs H=runL cfg a77 [.c c77] (initEnv xs) H:=lim_fn rfl rfl rfl xs H
theorem l78(xs:List AV)(H:Heap):lim cfg (.fn 78) xs H=runL cfg a78 [.c c78] (initEnv xs) H:=lim_fn rfl rfl rfl xs H
theorem l79(xs:List AV)(H:Heap):lim cfg (.fn 79) xs H=runL cfg a79 [.c c79] (initEnv xs) H:=lim_fn rfl rfl rfl xs H
theorem l80(xs:List AV)(H:Heap):lim cfg (.fn 80) xs H=runL cfg a80 [.c c80] (initEnv xs) H:=lim_fn rfl rfl rfl xs H
theorem l81(xs:List AV)(H:Heap):lim cfg (.fn 81) xs H=runL cfg a81 [.c c81] (initEnv xs) H:=lim_fn rfl rfl rfl xs H
theorem l82(xs:List AV)(H:Heap):lim cfg (.fn 82) xs H=runL cfg a82 [.c c82] (initEnv xs) H:=lim_fn rfl rfl rfl xs H
theorem l84(xs:List AV)(H:Heap):lim cfg (.fn 84) xs H=runL cfg a84 [.c c84] (initEnv xs) H:=lim_fn rfl rfl rfl xs H
theorem l85(xs:List AV)(H:Heap):lim cfg (.fn 85) xs H=runL cfg a85 [.c c85] (initEnv xs) H:=lim_fn rfl rfl rfl xs H
theorem l106(xs:List AV)(H:Heap):lim cfg (.fn 106) xs H=runL cfg a106 [.c c106] (initEnv xs) H:=lim_fn rfl rfl rfl xs H
theorem l107(xs:List AV)(H:Heap):lim cfg (.fn 107) xs H=runL cfg a107 [.c c107] (initEnv xs) H:=lim_fn rfl rfl rfl xs H
theorem l128(xs:List AV)(H:Heap):lim cfg (.fn 128) xs H=runL cfg a128 [.c c128] (initEnv xs) H:=lim_fn rfl rfl rfl xs H
end Go.Aa.T
set_option linter.unusedVariables false
set_option maxRecDepth 100000
namespace Go.Aa.T
open Go.Aa
def k13_0:List AIt:=[.lp b13_0,.blk 0,.c (.seq (rG [oP 2 (.mov (.c (.bool true)))]) .ret)]
def k14_0:List AIt:=[.lp b14_0,.blk 0,.c (.seq (rG [mV 25 3,mV 2 25]) .ret)]
def k15_0:List AIt:=[.lp b15_0,.blk 0,.c (.seq (rG [oP 2 (.mov (.c (.int .i64 0)))]) .ret)]
def k16_0:List AIt:=[.lp b16_0,.blk 0,.c (.seq (rG [oP 2 (.mov (.c (.int .i64 0)))]) .ret)]
def k18_0:List AIt:=[.lp b18_0,.blk 0,.c (.seq (rG [oP 4 (.mov (.c (.bool true)))]) .ret)]
def k19_0:List AIt:=[.lp b19_0,.blk 0,.c (.seq (rG [mV 26 3,oP 27 (.call (.c (.func 54 [])) [(.t 26),(.c (.str [44]))]),mV 2 27]) .ret)]
def k33_0:List AIt:=[.lp b33_0,.blk 0,.c (.seq (rG [oP 8 (.mov (.c (.sl .full [])))]) (.seq (.seq (rG [oP 9 (.mov (.c (.int .i64 0)))]) (.block 2 (.loop (.seq (.seq (rG [mV 42 9,mV 43 5,oP 44 (.len false (.t 43)),oP 45 (.bin .lss (.t 42) (.t 44))]) (.cond (.t 45) .skip (.exit 2))) (.seq (.block 3 (.seq (rG [mV 49 5,mV 50 9,oP 51 (.idx 1 (.t 49) (.t 50)),oP 52 (.load false 1 (.t 51)),oP 53 (.idx 1 (.t 52) (.c (.int .i64 1))),oP 54 (.load false 1 (.t 53)),oP 55 (.call (.c (.func 82 [])) [(.t 54),(.c (.int .i64 9223372036854775807))]),mV 48 55,oP 56 (.extract (.t 48) 0),oP 57 (.extract (.t 48) 1),mV 10 56,mV 11 57]) (.seq (.seq (rG [mV 58 11,oP 59 (.un .not (.t 58))]) (.cond (.t 59) (.seq (rG [oP 2 (.mov (.c (.sl .full []))),oP 3 (.mov (.c (.int .i64 5)))]) .ret) .skip)) (rG [mV 60 8,mV 61 5,mV 62 9,oP 63 (.idx 1 (.t 61) (.t 62)),oP 64 (.load false 1 (.t 63)),oP 65 (.idx 1 (.t 64) (.c (.int .i64 0))),oP 66 (.load false 1 (.t 65)),mV 67 10,oP 68 (.build [(.str []),(.int .i64 0)] [(0,1,(.t 66)),(1,1,(.t 67))]),oP 69 (.bslice 2 [(.t 68)]),oP 70 (.append 2 24 (.t 60) (.t 69)),mV 8 70])))) (rG [mV 46 9,oP 47 (.bin .add (.t 46) (.c (.int .i64 1))),mV 9 47])))))) (.seq (rG [mV 71 8,oP 72 (.call (.c (.func 16 [])) [(.t 71)]),mV 12 72]) (.seq (.seq (rG [mV 73 12,oP 74 (.bin .neq (.t 73) (.c (.int .i64 0)))]) (.cond (.t 74) (.seq (rG [mV 75 12,oP 2 (.mov (.c (.sl .full []))),mV 3 75]) .ret) .skip)) (.seq (rG [mV 76 8,mV 2 76,oP 3 (.mov (.c (.int .i64 0)))]) .ret)))))]
def k33_1:List AIt:=[.lp b33_1,.blk 2,.c (.seq (rG [mV 71 8,oP 72 (.call (.c (.func 16 [])) [(.t 71)]),mV 12 72]) (.seq (.seq (rG [mV 73 12,oP 74 (.bin .neq (.t 73) (.c (.int .i64 0)))]) (.cond (.t 74) (.seq (rG [mV 75 12,oP 2 (.mov (.c (.sl .full []))),mV 3 75]) .ret) .skip)) (.seq (rG [mV 76 8,mV 2 76,oP 3 (.mov (.c (.int .i64 0)))]) .ret)))]
def k35_0:List AIt:=[.lp b35_0,.blk 0,.c (.seq (rG [oP 2 (.mov (.c (.bool true)))]) .ret)]
def k37_0:List AIt:=[.lp b37_0,.blk 0,.c (.seq (rG [oP 4 (.mov (.c (.int .i64 0)))]) .ret)]
def ra75_0:ACode:=(.region [⟨some 3,.mov (.t 11),none,[]⟩] false)
def rb75_0:ACode:=(.block 1 (.seq (.region [⟨some 13,.mov (.t 3),none,[]⟩,⟨some 14,.call (.c (.func 77 [])) [(.t 13),(.c (.str [61]))],none,[]⟩,⟨some 12,.mov (.t 14),none,[]⟩,⟨some 15,.extract (.t 12) 0,none,[]⟩,⟨some 16,.extract (.t 12) 1,none,[]⟩,⟨some 17,.extract (.t 12) 2,none,[]⟩,⟨some 4,.mov (.t 15),none,[]⟩,⟨some 5,.mov (.t 16),none,[]⟩,⟨some 6,.mov (.t 17),none,[]⟩] false) (.seq (.region [⟨some 19,.mov (.t 5),none,[]⟩,⟨some 20,.call (.c (.func 78 [])) [(.t 19)],none,[]⟩,⟨some 18,.mov (.t 20),none,[]⟩,⟨some 21,.extract (.t 18) 0,none,[]⟩,⟨some 22,.extract (.t 18) 1,none,[]⟩,⟨some 7,.mov (.t 21),none,[]⟩,⟨some 8,.mov (.t 22),none,[]⟩] false) (.seq (.seq (.region [⟨some 23,.mov (.t 6),none,[]⟩,⟨some 24,.un .not (.t 23),none,[]⟩,⟨some 25,.mov (.t 24),none,[]⟩,⟨some 26,.mov (.t 8),some (25,false),[]⟩,⟨some 27,.bin .eql (.t 26) (.c (.int .i64 2)),some (25,false),[]⟩,⟨some 28,.pick (.t 25) (.c (.bool true)) (.t 27),none,[]⟩] false) (.cond (.t 28) (.region [⟨some 29,.call (.c (.func 79 [])) [(.c (.int .i64 2))],none,[]⟩] false) .skip)) (.seq (.region [⟨some 30,.load false 1 (.t 2),none,[]⟩,⟨some 31,.mov (.t 8),none,[]⟩,⟨some 32,.mm true (.t 30) (.t 31),none,[]⟩,⟨none,.store 1 (.t 2) (.t 32),none,[]⟩] false) (.region [⟨some 33,.load false 1 (.t 1),none,[]⟩,⟨some 34,.mov (.t 4),none,[]⟩,⟨some 35,.mov (.t 7),none,[]⟩,⟨some 36,.build [(.str []),(.int .i64 0)] [(0,1,(.t 34)),(1,1,(.t 35))],none,[]⟩,⟨some 37,.bslice 2 [(.t 36)],none,[]⟩,⟨some 38,.append 2 24 (.t 33) (.t 37),none,[]⟩,⟨none,.store 1 (.t 1) (.t 38),none,[]⟩] false))))))
def kr75_0:List AIt:=[.c (.range (.t 10) [11] ra75_0 rb75_0),.blk 0,.c (.seq (rG [oP 39 (.load false 1 (.t 2)),oP 40 (.call (.c (.func 79 [])) [(.t 39)])]) (rG [oP 41 (.load false 1 (.t 1)),oP 42 (.call (.c (.func 15 [])) [(.t 41)]),oP 43 (.call (.c (.func 79 [])) [(.t 42)])]))]
def k80_0:List AIt:=[.lp b80_0,.blk 0,.c (.seq (rG [mV 39 5,mV 4 39]) .ret)]
def k81_0:List AIt:=[.lp b81_0,.blk 0,.c (.seq (rG [oP 2 (.mov (.c (.bool true)))]) .ret)]
def k82_0:List AIt:=[.lp b82_0,.blk 0,.c (.seq (rG [mV 30 6,mV 31 6,mV 32 1,oP 33 (.bin .leq (.t 31) (.t 32)),mV 4 30,mV 5 33]) .ret)]
def k84_0:List AIt:=[.lp b84_0,.blk 0,.c (.seq (rG [oP 4 (.mov (.c (.int .i64 (-1))))]) .ret)]
def k128_1:List AIt:=[.lp b128_1,.blk 2,.c (rG [mV 49 0,oP 50 (.load false 1 (.t 2)),oP 51 (.call (.t 49) [(.t 50)])])]
end Go.Aa.T
set_option linter.unusedVariables false
set_option linter.unusedSimpArgs false
set_option maxRecDepth 100000
namespace Go.Proofs.YtbcfceehklfojaaGreatDoor
open Go.RowKit
open Go.Aa
theorem T.catch_idle(p:Addr)(w:World):
 CallsD Tryz.prog 105 #[.pointer (some p)] .returning w fun e u' w'=>e=.returned (.tuple #[])∧u'=.returning∧w'=w:=by
 refine callsD_of_wpS Tryz.func105 rfl fun c₀ cs hu=> ?_
 apply wpS_seq
 apply wpS_region
 simp[wpOpsS,go_sem,recoverD,hu,Tryz.ntmps105,Exit.thenS]
 refine wpS_of_wp ?_
 go_wp2
 cases c₀
 simp_all[bodyPostS,results,Tryz.results105]
theorem T.hta(v:Value)(w:World):(Instr.typeAssert (.iface 145 v) 20 145 true).run Tryz.prog w=.ok (.tuple #[v,.bool true]) w:=by kernel_rfl
set_option maxHeartbeats 4000000 in
theorem T.catch_stop(b:Nat)(x:Int)(n:Int)(older:List PanicEntry)(w:World)(hlt:b<w.heap.size)(hne:¬w.heap.size=b)(hne':¬b=w.heap.size)(hc:w.cell? ⟨b,0,none⟩=some (.int .i64 x))(hz:w.frozen? ⟨b,0,none⟩=false):
 CallsD Tryz.prog 105 #[.pointer (some ⟨b,0,none⟩)] (.panicking ({v:=.iface 145 (.agg #[.int .i64 n]),recovered:=false}::older)) w fun e u' w'=>
  e=.returned (.tuple #[])∧u'=.panicking ({v:=.iface 145 (.agg #[.int .i64 n]),recovered:=true}::older)∧w'=(w.setCell ⟨b,0,none⟩ (.int .i64 n)).alloc (.cells #[.int .i64 n] 145):=by
 have hta:=T.hta
 have hz0:∀w:World,(zeroValue 145).run Tryz.prog w=.ok (.agg #[.int .i64 0]) w:=fun _=>by kernel_rfl
 have hsz:Tryz.prog.cellsOf 145=1:=by kernel_rfl
 have hag:∀w:World,(isAgg 145).run Tryz.prog w=.ok true w:=fun _=>by kernel_rfl
 refine callsD_of_wpS Tryz.func105 rfl fun c₀ cs hu=> ?_
 apply wpS_seq
 apply wpS_region
 simp[wpOpsS,go_sem,recoverD,hu,Tryz.ntmps105,Exit.thenS]
 refine wpS_of_wp ?_
 go_wp2
 cases c₀
 simp_all[bodyPostS,results,Tryz.results105]
theorem T.try_ok{call:CallF}(hcs:CallSound Tryz.prog call){g:FuncId}{caps:List AV}{H H':Heap}{r:ARes}(hr:tryA (call (.fn g) caps H) 145=some (r,H')){G:Ghost}{w:World}{us:Array Value}(hH:HRep Tryz.prog G w H)(hargs:Args G w us caps):
 Calls Tryz.prog 74 #[.func (.func g) #[] us] w (PostOk Tryz.prog G w r H'):=by
 have hmf:∀(fn:Fn)(first cap:Array Value)(w:World),(Instr.makeFunc fn first cap).run Tryz.prog w=.ok (.func fn first cap) w:=fun _ _ _ _=>rfl
 obtain⟨st1,hH1⟩:=lay_step hH (.cells #[.int .i64 0] 28)
 have hlt:=tok_lt hH1
 have hfree:=free_new hH
 have hsz:(w.alloc (.cells #[.int .i64 0] 28)).heap.size=w.heap.size+1:=by simp
 have hb0:(w.alloc (.cells #[.int .i64 0] 28)).heap[w.heap.size]?=some (.cells #[.int .i64 0] 28 (0,0)):=World.alloc_heap_new w _
 have hcall:∃r1 H1,call (.fn g) caps H=some (r1,H1)∧((∃v,r1=.ret v∧r=.ret (.int .i64 0)∧H1=H')∨(∃n,r1=.pan (.iface 145 (.agg [.int .i64 n]))∧r=.ret (.int .i64 n)∧H1=H')):=by
  cases hcc:call (.fn g) caps H with
  |none=>rw[hcc]at hr;cases hr
  |some x=>
   obtain⟨r1,H1⟩:=x
   rw[hcc]at hr
   cases r1 with
   |ret v=>
    simp only[tryA,Option.some.injEq,Prod.mk.injEq]at hr
    exact⟨_,_,rfl,.inl ⟨v,rfl,hr.1.symm,hr.2⟩⟩
   |pan v=>
    unfold tryA at hr
    split at hr
    ·rename_i h;cases h
    ·rename_i h
     split at hr
     ·rename_i ht
      subst ht
      simp only[Option.some.injEq,Prod.mk.injEq]at hr
      simp only[Option.some.injEq,Prod.mk.injEq,ARes.pan.injEq]at h
      obtain⟨rfl,rfl⟩:=h
      exact⟨_,_,rfl,.inr ⟨_,rfl,hr.1.symm,hr.2⟩⟩
     ·cases hr
    ·cases hr
 obtain⟨r1,H1,hc,hend⟩:=hcall
 have hco:=hcs.fn g caps H r1 H1 hc G _ us hH1 (hargs.step st1)
 go_enter_defers Tryz.func74,Tryz.ntmps74
 go_wp2
 rcases hco with⟨_,hrun,hcalls,_⟩|⟨u,w',hrun,hpost⟩
 ·rw[hrun]
  simp only[Oper.upon]
  refine hcalls.mono ?_
  rintro e w2⟨G2,st2,hH2,hend2⟩
  obtain⟨hfree2,hb2⟩:=free_step hfree (by rw[hsz];omega) st2 hlt
  rw[hb0]at hb2
  have hc2:w2.cell? ⟨w.heap.size,0,none⟩=some (.int .i64 0):=by simp[World.cell?,hb2]
  have hz2:w2.frozen? ⟨w.heap.size,0,none⟩=false:=by simp[World.frozen?,hb2]
  have pk:∀n:Int,Step G w G2 (w2.setCell ⟨w.heap.size,0,none⟩ (.int .i64 n))∧HRep Tryz.prog G2 (w2.setCell ⟨w.heap.size,0,none⟩ (.int .i64 n)) H1:=fun n=>
   poke hfree2 hH.base (Nat.le_refl _) (st1.trans st2) hH2 (fun k hk=>Below.heap_setCell _ _ _ k hk) (by simp) hH.glob rfl rfl rfl
  rcases hend with⟨v,rfl,rfl,rfl⟩|⟨n,rfl,rfl,rfl⟩
  ·obtain⟨u,rfl,hu⟩:=hend2
   simp only
   apply ‹∀(a:Act)(w:World),wpList _ _ _ _ a w→_›
   go_wp2
   refine leaves_cons (f:=105) (args:= #[.pointer (some ⟨w.heap.size,0,none⟩)]) (by simp) (by simp[go_sem]) ?_
   refine(T.catch_idle _ _).mono ?_
   rintro e u' w''⟨rfl,rfl,rfl⟩
   have hc3:(w2.setCell ⟨w.heap.size,0,none⟩ (.int .i64 0)).cell? ⟨w.heap.size,0,none⟩=some (.int .i64 0):=by first|exact World.cell?_setCell_same _ hc2|exact World.cell?_setCell_same _ _ hc2|exact World.cell?_setCell_same _ _ _ hc2
   simp[Leaves,settle,results,Tryz.results74,go_sem,hc3]
   exact⟨G2,(pk 0).1,(pk 0).2,_,rfl,.int _ _⟩
  ·obtain⟨u,rfl,hu⟩:=hend2
   have hu':u=.iface 145 (.agg #[.int .i64 n]):=by
    cases hu with
    |iface _ v _ hv=>
     cases hv with
     |agg us _ hn hv=>
      have h0:us.size=1:=hn
      have h1:=hv 0 (by omega) (by simp)
      have e:us= #[us[0]]:=Array.ext (by simpa using h0) (fun i i1 i2=>by
       have:i=0:=by omega
       subst this;rfl)
      rw[List.getElem_cons_zero]at h1
      generalize us[0]=y at h1 e
      cases h1
      rw[e]
   subst hu'
   have hb3:w.heap.size<w2.heap.size:=(Array.getElem?_eq_some_iff.1 hb2).1
   simp only[Exit.then]
   refine leaves_cons (f:=105) (args:= #[.pointer (some ⟨w.heap.size,0,none⟩)]) (by simp) (by simp[go_sem]) ?_
   refine(T.catch_stop w.heap.size 0 n [] w2 hb3 (by omega) (by omega) hc2 hz2).mono ?_
   rintro e u' w''⟨rfl,rfl,rfl⟩
   have hc3:((w2.setCell ⟨w.heap.size,0,none⟩ (.int .i64 n)).alloc (.cells #[.int .i64 n] 145)).cell? ⟨w.heap.size,0,none⟩=some (.int .i64 n):=by
    have e1:=Below.heap_alloc (w2.setCell ⟨w.heap.size,0,none⟩ (.int .i64 n)) (.cells #[.int .i64 n] 145) w.heap.size (by simpa using hb3)
    have c:(w2.setCell ⟨w.heap.size,0,none⟩ (.int .i64 n)).cell? ⟨w.heap.size,0,none⟩=some (.int .i64 n):=by first|exact World.cell?_setCell_same _ hc2|exact World.cell?_setCell_same _ _ hc2|exact World.cell?_setCell_same _ _ _ hc2
    unfold World.cell? at c⊢
    rw[e1];exact c
   simp[Leaves,settle,results,Tryz.results74,go_sem,hc3]
   obtain⟨s3,h3⟩:=pk n
   obtain⟨s4,h4⟩:=lay_step h3 (.cells #[.int .i64 n] 145)
   exact⟨G2,s3.trans s4,h4,_,rfl,.int _ _⟩
 ·rw[hrun]
  simp only[Oper.upon]
  obtain⟨G2,st2,hH2,hend2⟩:=hpost
  obtain⟨hfree2,hb2⟩:=free_step hfree (by rw[hsz];omega) st2 hlt
  rw[hb0]at hb2
  have hc2:w'.cell? ⟨w.heap.size,0,none⟩=some (.int .i64 0):=by simp[World.cell?,hb2]
  have hz2:w'.frozen? ⟨w.heap.size,0,none⟩=false:=by simp[World.frozen?,hb2]
  have pk:∀n:Int,Step G w G2 (w'.setCell ⟨w.heap.size,0,none⟩ (.int .i64 n))∧HRep Tryz.prog G2 (w'.setCell ⟨w.heap.size,0,none⟩ (.int .i64 n)) H1:=fun n=>
   poke hfree2 hH.base (Nat.le_refl _) (st1.trans st2) hH2 (fun k hk=>Below.heap_setCell _ _ _ k hk) (by simp) hH.glob rfl rfl rfl
  rcases hend with⟨v,rfl,rfl,rfl⟩|⟨n,rfl,rfl,rfl⟩
  ·obtain⟨u',hu',hu⟩:=hend2
   apply ‹∀(a:Act)(w:World),wpList _ _ _ _ a w→_›
   go_wp2
   refine leaves_cons (f:=105) (args:= #[.pointer (some ⟨w.heap.size,0,none⟩)]) (by simp) (by simp[go_sem]) ?_
   refine(T.catch_idle _ _).mono ?_
   rintro e u' w''⟨rfl,rfl,rfl⟩
   have hc3:(w'.setCell ⟨w.heap.size,0,none⟩ (.int .i64 0)).cell? ⟨w.heap.size,0,none⟩=some (.int .i64 0):=by first|exact World.cell?_setCell_same _ hc2|exact World.cell?_setCell_same _ _ hc2|exact World.cell?_setCell_same _ _ _ hc2
   simp[Leaves,settle,results,Tryz.results74,go_sem,hc3]
   exact⟨G2,(pk 0).1,(pk 0).2,_,rfl,.int _ _⟩
  ·obtain⟨u',hu',hu⟩:=hend2
   cases hu'
theorem T.tryOk:TryOk Tryz.prog 74 145:=by
 intro call hcs g caps H r H' hr G w vs hH hargs
 obtain⟨h1,h2⟩:=hargs
 have hs:vs.size=1:=h1
 have e:vs= #[vs[0]]:=Array.ext (by simpa using hs) (fun i i1 i2=>by
  have:i=0:=by omega
  subst this;rfl)
 have hv:=h2 0 (by omega) (by simp)
 rw[List.getElem_cons_zero]at hv
 generalize vs[0]=y at hv e
 subst e
 cases hv with
 |func _ us _ hn hu=>exact .inl ⟨w,by kernel_rfl,T.try_ok hcs hr hH ⟨hn,hu⟩,rfl⟩
#print axioms T.tryOk
end Go.Proofs.YtbcfceehklfojaaGreatDoor
set_option linter.unusedVariables false
set_option linter.unusedSimpArgs false
set_option maxRecDepth 100000
namespace Go.Aa.T
open Go.Aa Go.Proofs
variable{H:Heap}
structure Taint where
 key:List UInt8
 val:List UInt8
 hard:Bool
structure Tol where
 key:List UInt8
 val:List UInt8
 any:Bool
def Taint.cells(t:Taint):List AV:=[.str t.key,.str t.val,.bool t.hard]
def Tol.cells(t:Tol):List AV:=[.str t.key,.str t.val,.bool t.any]
def encT(t:Taint):AV:=.agg t.cells
def encL(t:Tol):AV:=.agg t.cells
instance(t:Taint):Dat (encT t):=⟨rfl,rfl⟩
instance(t:Tol):Dat (encL t):=⟨rfl,rfl⟩
end Go.Aa.T
set_option linter.unusedVariables false
set_option linter.unusedSimpArgs false
set_option maxRecDepth 100000
namespace Go.Aa.T
open Go.Aa Go.Proofs
def nameCh(c:UInt8):Bool:=(decide (97≤c.toNat)&&decide (c.toNat≤122))||(decide (48≤c.toNat)&&decide (c.toNat≤57))
def isName(s:List UInt8):Bool:=decide (1≤s.length)&&decide (s.length≤12)&&s.all nameCh
theorem name_loop(s:List UInt8)(hn:s.length≤12):∀(post:List UInt8)(i:Nat)(hd:s.drop i=post)(T:Env)(hT:Has T [(0,.str s),(3,.int .i64 i)]),
 Goes cfg a35 k35_0 T Heap.nil (IsRet (.bool (post.all nameCh))):=by
 intro post
 induction post with
 |nil=>
  intro i hd T hT
  have hge:=drop_ge hd
  exact goG 60 _ hT (.len (show lenA true (.str s)=some (.int .i64 (↑s.length))from len_str _)<|.no (decide_eq_false (p:=(↑i:Int)<(↑s.length:Int)) (by omega))<|.fin ((.ret (.bool true),{boxes:=[],toks:=[],loops:=[]:Heap})) rfl) (by kernel_rfl)
 |cons x post ih=>
  intro i hd T hT
  have hlt:=drop_lt hd
  have hnx:=drop_next hd
  exact let ζ1:Heap:={boxes:=[],toks:=[],loops:=[]:Heap};goG 60 _ hT (.len (show lenA true (.str s)=some (.int .i64 (↑s.length))from len_str _)<|.yes (decide_eq_true (p:=(↑i:Int)<(↑s.length:Int)) (by omega))<|.idxs (show idxsA (.str s) (.int .i64 ↑i)=some (.int .u8 (↑x.toNat))from idx_str hd)<|.split ((↑x.toNat:Int)<(97:Int)) (fun h1=>.yes (decide_eq_true (p:=(↑x.toNat:Int)<(97:Int)) h1)<|.tt<|.idxs (show idxsA (.str s) (.int .i64 ↑i)=some (.int .u8 (↑x.toNat))from idx_str hd)<|.split ((↑x.toNat:Int)<(48:Int)) (fun h2=>.yes (decide_eq_true (p:=(↑x.toNat:Int)<(48:Int)) h2)<|.tt<|.fin ((.ret (.bool false),ζ1)) (by simp only[IsRet];grind[nameCh])) (fun h2=>.no (decide_eq_false (p:=(↑x.toNat:Int)<(48:Int)) h2)<|.idxs (show idxsA (.str s) (.int .i64 ↑i)=some (.int .u8 (↑x.toNat))from idx_str hd)<|.split ((57:Int)<(↑x.toNat:Int)) (fun h3=>.yes (decide_eq_true (p:=(57:Int)<(↑x.toNat:Int)) h3)<|.fin ((.ret (.bool false),ζ1)) (by simp only[IsRet];grind[nameCh])) (fun h3=>.no (decide_eq_false (p:=(57:Int)<(↑x.toNat:Int)) h3)<|.bin (show binA .add (.int .i64 ↑i) (.int .i64 1)=some (.int .i64 (↑(i+1)))from inc_i (by omega))<|.cutQ k35_0 [(0,.str s),(3,.int .i64 (↑(i+1)))] (ζ1) (fun T hT=>(ih (i+(1:Nat)) hnx T hT).to (by grind[nameCh]))))) (fun h1=>.no (decide_eq_false (p:=(↑x.toNat:Int)<(97:Int)) h1)<|.idxs (show idxsA (.str s) (.int .i64 ↑i)=some (.int .u8 (↑x.toNat))from idx_str hd)<|.split ((122:Int)<(↑x.toNat:Int)) (fun h2=>.yes (decide_eq_true (p:=(122:Int)<(↑x.toNat:Int)) h2)<|.idxs (show idxsA (.str s) (.int .i64 ↑i)=some (.int .u8 (↑x.toNat))from idx_str hd)<|.no (decide_eq_false (p:=(↑x.toNat:Int)<(48:Int)) (by omega))<|.idxs (show idxsA (.str s) (.int .i64 ↑i)=some (.int .u8 (↑x.toNat))from idx_str hd)<|.yes (decide_eq_true (p:=(57:Int)<(↑x.toNat:Int)) (by omega))<|.fin ((.ret (.bool false),ζ1)) (by simp only[IsRet];grind[nameCh])) (fun h2=>.no (decide_eq_false (p:=(122:Int)<(↑x.toNat:Int)) h2)<|.ff<|.bin (show binA .add (.int .i64 ↑i) (.int .i64 1)=some (.int .i64 (↑(i+1)))from inc_i (by omega))<|.cutQ k35_0 [(0,.str s),(3,.int .i64 (↑(i+1)))] (ζ1) (fun T hT=>(ih (i+(1:Nat)) hnx T hT).to (by grind[nameCh]))))) (by kernel_rfl)
theorem name_any(s:List UInt8):Gives cfg 35 [.str s] (.bool (isName s)):=by
 refine Gives.run (l35 _ _) ?_
 have h:=fun hn=>name_loop s hn s 0 rfl
 exact let ζ1:Heap:={boxes:=[],toks:=[],loops:=[]:Heap};goG 60 [] trivial (.len (show lenA true (.str s)=some (.int .i64 (↑s.length))from len_str _)<|.split ((↑s.length:Int)<(1:Int)) (fun h1=>.yes (decide_eq_true (p:=(↑s.length:Int)<(1:Int)) h1)<|.tt<|.fin ((.ret (.bool false),ζ1)) (by simp only[IsRet];grind[isName])) (fun h1=>.no (decide_eq_false (p:=(↑s.length:Int)<(1:Int)) h1)<|.len (show lenA true (.str s)=some (.int .i64 (↑s.length))from len_str _)<|.split ((12:Int)<(↑s.length:Int)) (fun h2=>.yes (decide_eq_true (p:=(12:Int)<(↑s.length:Int)) h2)<|.fin ((.ret (.bool false),ζ1)) (by simp only[IsRet];grind[isName])) (fun h2=>.no (decide_eq_false (p:=(12:Int)<(↑s.length:Int)) h2)<|.cutQ k35_0 [(0,.str s),(3,.int .i64 0)] (ζ1) (fun T hT=>(h (by omega) T hT).to (by grind[isName]))))) (by kernel_rfl)
end Go.Aa.T
set_option linter.unusedVariables false
set_option linter.unusedSimpArgs false
set_option maxRecDepth 100000
namespace Go.Aa.T
open Go.Aa Go.Proofs
def same(x y:Taint):Bool:=decide (y.key=x.key)&&decide (y.val=x.val)
def okL(x:Tol):Bool:=(decide (x.key=[])||isName x.key)&&(if x.any then decide (x.val=[])else isName x.val)
def ckL(l:List Tol):Int:=if l.length≤8 then(if l.all okL then 0 else 3)else 4
end Go.Aa.T
set_option linter.unusedVariables false
set_option linter.unusedSimpArgs false
set_option maxRecDepth 100000
namespace Go.Aa.T
open Go.Aa Go.Proofs
def _root_.Go.Aa.ScrQ.callI{cfg:Cfg}{A:AFunc}{R:ARes×Heap→Prop}{ys:List AV}{g:FuncId}{v:AV}(h:Gives cfg g ys v)(s:ScrQ cfg A R)(hx:ys.map shut2=ys∧ys.all data2=true:=by exact⟨rfl,rfl⟩)(hv:shutA v=v∧isData v=true:=by exact⟨rfl,rfl⟩):ScrQ cfg A R:=.callG ys v h hx hv s
def _root_.Go.Aa.ScrQ.callK{cfg:Cfg}{A:AFunc}{R:ARes×Heap→Prop}(xs:List AV){ys:List AV}{g:FuncId}{v:AV}(w:AV)(h:Gives cfg g ys v)(s:ScrQ cfg A R)(hx:xs.map shut2=ys∧ys.all data2=true:=by exact⟨rfl,rfl⟩)(hv:shutA v=w∧isData w=true:=by exact⟨rfl,rfl⟩):ScrQ cfg A R:=.callG xs w h hx hv s
def alnum:List UInt8:=[97,98,99,100,101,102,103,104,105,106,107,108,109,110,111,112,113,114,115,116,117,118,119,120,121,122,48,49,50,51,52,53,54,55,56,57]
theorem alnum_ch(c:UInt8):alnum.contains c=nameCh c:=by
 have:∀n:Fin 256,alnum.contains (UInt8.ofNat n.val)=nameCh (UInt8.ofNat n.val):=by decide+kernel
 have h:=this ⟨c.toNat,c.toNat_lt⟩
 simpa using h
theorem dropWhile_nil{p:UInt8→Bool}:∀{l:List UInt8},l.dropWhile p=[]↔l.all p=true
 |[]=>by simp
 |c::l=>by
  by_cases h:p c=true
  ·simp[List.dropWhile_cons,h,dropWhile_nil]
  ·simp[List.dropWhile_cons,h]
theorem trim_nil(s:List UInt8):Lib.trimS s alnum=[]↔s.all nameCh=true:=by
 have hp:(fun c=>alnum.contains c)=nameCh:=funext alnum_ch
 unfold Lib.trimS Lib.trimLeftS Lib.trimRightS
 rw[hp,dropWhile_nil,List.all_reverse]
 constructor
 ·intro h
  have e:=List.takeWhile_append_dropWhile (p:=nameCh) (l:=s.reverse)
  have:s.reverse.all nameCh=true:=by
   rw[←e,List.all_append,h,Bool.and_true]
   exact List.all_takeWhile
  rwa [List.all_reverse]at this
 ·intro h
  have:s.reverse.dropWhile nameCh=[]:=dropWhile_nil.2 (by rwa [List.all_reverse])
  rw[this];rfl
theorem trim_any(s:List UInt8)(h:s.length≤9223372036854775807):Gives cfg 83 [.str s,.str alnum] (.str (Lib.trimS s alnum)):=by
 refine Gives.of (H':=Heap.nil) ?_
 rw[lim_ext (g:=trimE) rfl rfl]
 have:trimE [.str s,.str alnum] Heap.nil=some (.str (Lib.trimS s alnum),Heap.nil):=if_pos ⟨h,by decide,by decide⟩
 rw[this];rfl
theorem res_name(s:List UInt8):Gives cfg 34 [.str s] (.bool (isName s)):=by
 refine Gives.run (l34 _ _) ?_
 have ht:=trim_nil s
 exact let ζ1:Heap:={boxes:=[],toks:=[],loops:=[]:Heap};goG 60 [] trivial (.len (show lenA true (.str s)=some (.int .i64 (↑s.length))from len_str _)<|.split ((1:Int)≤(↑s.length:Int)) (fun h1=>.yes (decide_eq_true (p:=(1:Int)≤(↑s.length:Int)) h1)<|.len (show lenA true (.str s)=some (.int .i64 (↑s.length))from len_str _)<|.split ((↑s.length:Int)≤(12:Int)) (fun h2=>.yes (decide_eq_true (p:=(↑s.length:Int)≤(12:Int)) h2)<|.callK ([.str s,.str [(97:UInt8),(98:UInt8),(99:UInt8),(100:UInt8),(101:UInt8),(102:UInt8),(103:UInt8),(104:UInt8),(105:UInt8),(106:UInt8),(107:UInt8),(108:UInt8),(109:UInt8),(110:UInt8),(111:UInt8),(112:UInt8),(113:UInt8),(114:UInt8),(115:UInt8),(116:UInt8),(117:UInt8),(118:UInt8),(119:UInt8),(120:UInt8),(121:UInt8),(122:UInt8),(48:UInt8),(49:UInt8),(50:UInt8),(51:UInt8),(52:UInt8),(53:UInt8),(54:UInt8),(55:UInt8),(56:UInt8),(57:UInt8)]]) (.str (Lib.trimS s alnum)) (show Gives cfg (83:FuncId) [.str s,.str alnum] (.str (Lib.trimS s alnum))from trim_any _ (by omega))<|.fin ((.ret (.bool (Lib.trimS s alnum==[])),ζ1)) (by simp only[IsRet];grind[isName])) (fun h2=>.no (decide_eq_false (p:=(↑s.length:Int)≤(12:Int)) h2)<|.fin ((.ret (.bool false),ζ1)) (by simp only[IsRet];grind[isName]))) (fun h1=>.no (decide_eq_false (p:=(1:Int)≤(↑s.length:Int)) h1)<|.ff<|.fin ((.ret (.bool false),ζ1)) (by simp only[IsRet];grind[isName]))) (by kernel_rfl)
end Go.Aa.T
set_option linter.unusedVariables false
set_option linter.unusedSimpArgs false
set_option maxRecDepth 100000
namespace Go.Aa.T
open Go.Aa Go.Proofs
structure Pair where
 key:List UInt8
 val:List UInt8
structure Term where
 op:Int
 key:List UInt8
 val:List UInt8
def Pair.cells(t:Pair):List AV:=[.str t.key,.str t.val]
def Term.cells(t:Term):List AV:=[.int .i64 t.op,.str t.key,.str t.val]
def encP(t:Pair):AV:=.agg t.cells
def ordB(s:List Pair)(i:Nat)(x:Pair):Bool:=match i with
 |0=>false
 |j+1=>match s[j]? with
  |some p=>Op.bytesLess x.key p.key||x.key==p.key
  |none=>false
def ckSl(s:List Pair):Nat→List Pair→Int
 |_,[]=>0
 |i,x::post=>if isName x.key&&isName x.val then(if ordB s i x then 13 else ckSl s (i+1) post)else 3
def ckS(s:List Pair):Int:=if s.length≤8 then ckSl s 0 s else 4
theorem dec_i{i:Nat}(h:i<9223372036854775807):binA .sub (.int .i64 ((i+1:Nat):Int)) (.int .i64 1)=some (.int .i64 (i:Int)):=by
 rw[subI (by omega) (by omega)];congr 2;omega
def valOk(x:Term):Bool:=if x.op≤2 then isName x.val else decide (x.val=[])
def ckMl:List Term→Int
 |[]=>0
 |x::post=>if 1≤x.op∧x.op≤4 then(if isName x.key&&valOk x then ckMl post else 3)else 1
def ckM(l:List Term):Int:=if l.length≤8 then ckMl l else 4
end Go.Aa.T
set_option linter.unusedVariables false
set_option linter.unusedSimpArgs false
set_option maxRecDepth 100000
namespace Go.Aa.T
open Go.Aa Go.Proofs
def fidxB{α:Type}(p:α→Bool):List α→Nat→Int
 |[],_=> -1
 |x::l,i=>if p x then i else fidxB p l (i+1)
end Go.Aa.T
set_option linter.unusedVariables false
set_option linter.unusedSimpArgs false
set_option maxRecDepth 100000
namespace Go.Aa.T
open Go.Aa Go.Proofs
end Go.Aa.T
set_option linter.unusedVariables false
set_option linter.unusedSimpArgs false
set_option maxRecDepth 100000
namespace Go.Aa.T
open Go.Aa Go.Proofs
theorem bl_eq(x y:List UInt8):Op.bytesLess x y=decide (x<y):=bytesLess_eq x y
theorem bl_irrefl(x:List UInt8):Op.bytesLess x x=false:=by rw[bl_eq];simp[List.lt_irrefl]
theorem bl_trans{x y z:List UInt8}(h1:Op.bytesLess x y=true)(h2:Op.bytesLess y z=true):Op.bytesLess x z=true:=by
 rw[bl_eq,decide_eq_true_eq]at h1 h2⊢
 exact List.lt_trans h1 h2
theorem bl_not{x y:List UInt8}(h:(Op.bytesLess x y||x==y)=false):Op.bytesLess y x=true:=by
 simp only[Bool.or_eq_false_iff,beq_eq_false_iff_ne,bl_eq,decide_eq_false_iff_not]at h
 rw[bl_eq,decide_eq_true_eq]
 obtain⟨h1,h2⟩:=h
 by_cases h3:y<x
 ·exact h3
 ·exact absurd (List.le_antisymm (List.not_lt.1 h3) (List.not_lt.1 h1)) h2
theorem bl_asym{x y:List UInt8}(h:Op.bytesLess x y=true):(Op.bytesLess y x||y==x)=false:=by
 rw[Bool.or_eq_false_iff]
 constructor
 ·cases h':Op.bytesLess y x with
  |false=>rfl
  |true=>have:=bl_trans h h';rw[bl_irrefl]at this;cases this
 ·rw[beq_eq_false_iff_ne]
  rintro rfl
  rw[bl_irrefl]at h;cases h
def place(s:List Pair)(k:List UInt8):Nat:=(s.takeWhile (fun p=>Op.bytesLess p.key k)).length
end Go.Aa.T
set_option linter.unusedVariables false
set_option linter.unusedSimpArgs false
set_option maxRecDepth 100000
namespace Go.Aa.T
open Go.Aa Go.Proofs
def textOf{α:Type}(f:α→List UInt8)(l:List α):List UInt8:=if l.isEmpty then [45]else Lib.join (l.map f) [44]
theorem tail_len:∀(r:List (List UInt8)),(∀s∈r,s.length≤103)→(Lib.joinTail [44] r).length≤r.length*104
 |[],_=>by simp[Lib.joinTail]
 |s::r,h=>by
  have h1:=h s (by simp)
  have h2:=tail_len r (fun y hy=>h y (by simp[hy]))
  simp only[Lib.joinTail,List.map_cons,List.flatten_cons,List.length_append,List.length_cons,List.length_nil]at h2⊢
  omega
theorem join_len(ss:List (List UInt8))(h:∀s∈ss,s.length≤103)(hn:ss.length≤20):(Lib.join ss [44]).length≤3000:=by
 cases ss with
 |nil=>simp[Lib.join_nil]
 |cons x r=>
  rw[Lib.join_cons,List.length_append]
  have h1:=h x (by simp)
  have h2:=tail_len r (fun y hy=>h y (by simp[hy]))
  simp only[List.length_cons]at hn
  omega
theorem strsA_map(ss:List (List UInt8)):strsA (ss.map AV.str)=some ss:=by
 induction ss with
 |nil=>rfl
 |cons s ss ih=>simp[strsA,ih]
theorem join_any(ss:List (List UInt8))(h1:ss.length≤140737488355328)(h2:(Lib.join ss [44]).length≤140737488355328):Gives cfg 54 [.sl .sh (ss.map AV.str),.str [44]] (.str (Lib.join ss [44])):=by
 refine Gives.of (H':=Heap.nil) ?_
 rw[lim_ext (g:=joinE) rfl rfl]
 have:joinE [.sl .sh (ss.map AV.str),.str [44]] Heap.nil=some (.str (Lib.join ss [44]),Heap.nil):=by
  simp only[joinE,strsA_map]
  exact if_pos ⟨h1,h2⟩
 rw[this];rfl
theorem lenSt{l:List (List UInt8)}:lenOk 1 (l.map AV.str)=true:=lenOk_map fun _=>rfl
end Go.Aa.T
set_option linter.unusedVariables false
set_option linter.unusedSimpArgs false
namespace Go.Aa.T
open Go.Aa
def isDig(c:UInt8):Bool:=decide (48≤c.toNat)&&decide (c.toNat≤57)
def dval(c:UInt8):Nat:=c.toNat-48
def valN(acc:Nat)(s:List UInt8):Nat:=s.foldl (fun a c=>a*10+dval c) acc
def digB(s:List UInt8):Bool:= !s.isEmpty&&s.all isDig&&(decide (s.head?≠some 48)||decide (s.length=1))
theorem valN_cons(a:Nat)(c:UInt8)(r:List UInt8):valN a (c::r)=valN (a*10+dval c) r:=List.foldl_cons ..
theorem valN_nil(a:Nat):valN a []=a:=List.foldl_nil ..
theorem valN_app(a:Nat)(s t:List UInt8):valN a (s++t)=valN (valN a s) t:=by
 induction s generalizing a with
 |nil=>rw[List.nil_append,valN_nil]
 |cons c s ih=>rw[List.cons_append,valN_cons,valN_cons];exact ih (a*10+dval c)
theorem valN_ge(s:List UInt8):∀a,a≤valN a s:=by
 induction s with
 |nil=>intro a;exact Nat.le_refl _
 |cons c s ih=>
  intro a
  have h:=ih (a*10+dval c)
  rw[valN_cons]
  generalize dval c=d at h⊢
  exact Nat.le_trans (by omega) h
theorem dec_split(u:Nat)(h:¬u<10):Lib.decDigits u=Lib.decDigits (u/10)++[UInt8.ofNat (48+u%10)]:=by
 rw[Lib.decDigits,dif_neg h]
theorem dec_one(u:Nat)(h:u<10):Lib.decDigits u=[UInt8.ofNat (48+u)]:=by
 rw[Lib.decDigits,dif_pos h]
theorem dig_back{c:UInt8}(h:isDig c=true):UInt8.ofNat (48+dval c)=c∧dval c<10:=by
 simp only[isDig,Bool.and_eq_true,decide_eq_true_eq]at h
 refine⟨?_,by unfold dval;omega⟩
 apply UInt8.toNat_inj.1
 simp only[UInt8.toNat_ofNat',dval]
 omega
theorem valN_pos{s:List UInt8}(h:s.all isDig=true)(h0:s≠[])(h1:s.head?≠some 48):0<valN 0 s:=by
 cases s with
 |nil=>exact absurd rfl h0
 |cons c r=>
  rw[valN_cons]
  refine Nat.lt_of_lt_of_le ?_ (valN_ge r _)
  simp only[List.all_cons,Bool.and_eq_true]at h
  have hc:=dig_back h.1
  have h3:dval c≠0:=by
   intro e
   rw[e]at hc
   exact h1 (by rw[←hc.1];rfl)
  generalize dval c=d at h3
  omega
theorem val_dec:∀(n:Nat)(s:List UInt8),s.length=n→digB s=true→Lib.decDigits (valN 0 s)=s:=by
 intro n
 induction n with
 |zero=>
  intro s hs h
  have:s=[]:=List.length_eq_zero_iff.1 hs
  subst this
  simp[digB]at h
 |succ n ih=>
  intro s hs h
  simp only[digB,Bool.and_eq_true,Bool.not_eq_true',List.isEmpty_eq_false_iff,Bool.or_eq_true,decide_eq_true_eq]at h
  obtain⟨⟨h1,h2⟩,h3⟩:=h
  obtain⟨t,c,rfl⟩:∃t c,s=t++[c]:=⟨s.dropLast,s.getLast h1,(List.dropLast_concat_getLast h1).symm⟩
  simp only[List.all_append,List.all_cons,List.all_nil,Bool.and_true,Bool.and_eq_true]at h2
  have hc:=dig_back h2.2
  rw[valN_app,valN_cons,valN_nil]
  cases t with
  |nil=>
   have e:valN 0 []*10+dval c=dval c:=by rw[valN_nil,Nat.zero_mul,Nat.zero_add]
   rw[e,dec_one _ hc.2,hc.1];rfl
  |cons x xs=>
   have h4:(x::xs).head?≠some 48:=by
    rcases h3 with h3|h3
    ·simpa using h3
    ·simp at h3
   have hp:=valN_pos h2.1 (by simp) h4
   have ih':=ih (x::xs) (by simpa using hs) (by
    simp only[digB,Bool.and_eq_true,Bool.not_eq_true',List.isEmpty_eq_false_iff,Bool.or_eq_true,decide_eq_true_eq]
    exact⟨⟨by simp,h2.1⟩,.inl h4⟩)
   have hd:=hc.2
   have hb:=hc.1
   generalize valN 0 (x::xs)=v at hp ih'⊢
   generalize dval c=d at hd hb⊢
   have e1:(v*10+d)/10=v:=by omega
   have e2:(v*10+d)%10=d:=by omega
   rw[dec_split _ (by omega),e1,e2,ih',hb]
theorem val_dec'{s:List UInt8}(h:digB s=true):Lib.decDigits (valN 0 s)=s:=val_dec _ s rfl h
theorem pu_dig(M:Nat)(hM:M≤18446744073709551615):∀(s:List UInt8)(acc:Nat),s.all isDig=true→acc≤M→Lib.parseUintM M acc s=if valN acc s≤M then .ok (valN acc s)else .range:=by
 intro s
 induction s with
 |nil=>intro acc _ ha;rw[valN_nil,if_pos ha];rfl
 |cons c r ih=>
  intro acc h ha
  simp only[List.all_cons,Bool.and_eq_true]at h
  have hc:48≤c.toNat∧c.toNat≤57:=by simpa[isDig]using h.1
  have hg:=valN_ge r (acc*10+dval c)
  have hd:dval c=c.toNat-48:=rfl
  rw[valN_cons,Lib.parseUintM,if_pos hc,←hd]
  have ih':=ih (acc*10+dval c) h.2
  generalize dval c=d at hg ih'⊢
  generalize valN (acc*10+d) r=v at hg ih'⊢
  by_cases h1:1844674407370955162≤acc
  ·rw[if_pos h1,if_neg (by omega)]
  ·rw[if_neg h1]
   by_cases h2:M<acc*10+d
   ·rw[if_pos h2,if_neg (by omega)]
   ·rw[if_neg h2,ih' (by omega)]
theorem pi_dig{s:List UInt8}(h0:s≠[])(h:s.all isDig=true):Lib.parseIntB 64 s=if valN 0 s<9223372036854775808 then .ok (valN 0 s:Int)else .range:=by
 cases s with
 |nil=>exact absurd rfl h0
 |cons c r=>
  have hc:48≤c.toNat∧c.toNat≤57:=by
   simp only[List.all_cons,Bool.and_eq_true]at h
   simpa[isDig]using h.1
  have n1:¬(c.toNat=43∨c.toNat=45):=by omega
  have n2:¬c.toNat=45:=by omega
  unfold Lib.parseIntB
  simp only[if_neg n1]
  have hp:Lib.parseUintB 64 (c::r)=if valN 0 (c::r)≤18446744073709551615 then .ok (valN 0 (c::r))else .range:=by
   unfold Lib.parseUintB
   rw[if_neg (by simp)]
   exact pu_dig 18446744073709551615 (Nat.le_refl _) (c::r) 0 h (Nat.zero_le _)
  rw[hp]
  generalize valN 0 (c::r)=v
  by_cases h1:v≤18446744073709551615
  ·rw[if_pos h1]
   simp only[n2,not_false_eq_true,true_and,false_and,if_false,show(2:Nat)^(64-1)=9223372036854775808 from rfl]
   by_cases h2:9223372036854775808≤v
   ·rw[if_pos h2,if_neg (by omega)]
   ·rw[if_neg h2,if_pos (by omega)]
  ·rw[if_neg h1,if_neg (by omega)]
theorem itoa_nat{n:Nat}(h:n≤9223372036854775807):itoaF (n:Int)=Lib.decDigits n:=by
 rw[itoaF_eq (by omega) (by omega)]
 unfold Lib.itoa
 rw[if_neg (by omega)]
 rfl
end Go.Aa.T
set_option linter.unusedVariables false
set_option linter.unusedSimpArgs false
set_option maxRecDepth 100000
namespace Go.Aa.T
open Go.Aa Go.Proofs
theorem in0_data{nb nt:Nat}:∀{x:AV},data0 x=true→in0 nb nt x=true
 |.undef,h=>by cases h
 |.bool _,_=>rfl
 |.int ..,_=>rfl
 |.flt _,_=>rfl
 |.nan,_=>rfl
 |.str _,_=>rfl
 |.sl .sh _,_=>rfl
 |.sl .full _,_=>rfl
 |.sl .nil _,h=>by cases h
 |.sl (.own _) _,h=>by cases h
 |.agg _,h=>by cases h
 |.tuple _,h=>by cases h
 |.ptr ..,h=>by cases h
 |.ref _,_=>rfl
 |.nilptr,_=>rfl
 |.func ..,h=>by cases h
 |.nilFunc,_=>rfl
 |.iface ..,h=>by cases h
 |.nilIface,_=>rfl
 |.msl ..,h=>by cases h
 |.yield _,h=>by cases h
theorem in2_data0{nb nt:Nat}{x:AV}(h:data0 x=true):in2 nb nt x=true:=by
 have:=in0_data (nb:=nb) (nt:=nt) h
 cases x<;>first|exact this|cases h
theorem trunc_plain{bs ex:List (List AV)}{ts:List Nat}{b:Bool}(hb:bs.all (·.all data0)=true):trunc bs.length ts.length (.bool b) ⟨bs++ex,ts,[]⟩=⟨bs,ts,[]⟩:=by
 have hin:∀nb nt,bs.all (·.all (in2 nb nt))=true:=fun nb nt=>by
  rw[List.all_eq_true]at hb⊢
  intro l hl
  have:=hb l hl
  rw[List.all_eq_true]at this⊢
  exact fun x hx=>in2_data0 (this x hx)
 unfold trunc
 simp only[List.take_left',hin,List.all_nil,Bool.true_and,Bool.and_true]
 simp[within,in2,in1,in0]
section
variable{H:Heap}{k:Nat}{p:Taint→Bool}
end
end Go.Aa.T
set_option linter.unusedVariables false
set_option linter.unusedSimpArgs false
set_option maxRecDepth 100000
namespace Go.Aa.T
open Go.Aa Go.Proofs
end Go.Aa.T
set_option linter.unusedVariables false
set_option linter.unusedSimpArgs false
set_option maxRecDepth 100000
namespace Go.Aa.T
open Go.Aa Go.Proofs
def _root_.Go.Aa.ScrQ.callH{cfg:Cfg}{A:AFunc}{R:ARes×Heap→Prop}{ys:List AV}{g:FuncId}{v:AV}(h:Gives cfg g ys v)(hx:ys.map shut2=ys∧ys.all data2=true)(hv:shutA v=v∧isData v=true)(s:ScrQ cfg A R):ScrQ cfg A R:=.callG ys v h hx hv s
structure Amount where
 name:List UInt8
 n:Int
def encA(x:Amount):AV:=.agg [.str x.name,.int .i64 x.n]
instance(x:Amount):Dat (encA x):=⟨rfl,rfl⟩
theorem lenA2{l:List Amount}:lenOk 2 (l.map encA)=true:=lenOk_map fun _=>rfl
def ordV(s:List Amount)(i:Nat)(x:Amount):Bool:=match i with
 |0=>false
 |j+1=>match s[j]? with
  |some p=>Op.bytesLess x.name p.name||x.name==p.name
  |none=>false
def ckVl(s:List Amount):Nat→List Amount→Int
 |_,[]=>0
 |i,x::post=>if isName x.name then(if x.n≤0 then 1 else if ordV s i x then 13 else ckVl s (i+1) post)else 3
def ckV(s:List Amount):Int:=if s.length≤8 then ckVl s 0 s else 4
theorem ckV_ref_loop(l:List Amount)(hn:l.length≤8):∀(post:List Amount)(i:Nat)(hd:l.drop i=post)(T:Env)(hT:Has T [(0,.sl .sh (l.map encA)),(3,.int .i64 i)]),
 Goes cfg a16 k16_0 T Heap.nil (IsRet (.int .i64 (ckVl l i post))):=by
 intro post
 induction post with
 |nil=>
  intro i hd T hT
  have hge:=drop_ge hd
  exact goG 60 _ hT (.len (show lenA false (.sl .sh (l.map encA))=some (.int .i64 (↑l.length))from len_map _)<|.no (decide_eq_false (p:=(↑i:Int)<(↑l.length:Int)) (by omega))<|.fin ((.ret (.int .i64 0),{boxes:=[],toks:=[],loops:=[]:Heap})) rfl) (by kernel_rfl)
 |cons x post ih=>
  intro i hd T hT
  have hlt:=drop_lt hd
  have hnx:=drop_next hd
  cases i with
  |zero=>exact let ζ1:Heap:={boxes:=[],toks:=[],loops:=[]:Heap};goG 60 _ hT (.len (show lenA false (.sl .sh (l.map encA))=some (.int .i64 (↑l.length))from len_map _)<|.yes (decide_eq_true (p:=(↑(0:Nat):Int)<(↑l.length:Int)) (by omega))<|.idx (show idxA 2 (.sl .sh (l.map encA)) (.int .i64 (↑(0:Nat):Int))=some (.ref (encA x).cells)from idx_row hd (by rfl))<|.callI (show Gives cfg (35:FuncId) [.str x.name] (.bool (isName x.name))from name_any _)<|.split (isName x.name=true) (fun h1=>.no (show(!isName x.name)=false from by have hh:isName x.name=true:=h1;simp[hh])<|.idx (show idxA 2 (.sl .sh (l.map encA)) (.int .i64 (↑(0:Nat):Int))=some (.ref (encA x).cells)from idx_row hd (by rfl))<|.split (x.n≤(0:Int)) (fun h2=>.yes (decide_eq_true (p:=x.n≤(0:Int)) h2)<|.fin ((.ret (.int .i64 1),ζ1)) (by simp only[IsRet];grind[ckVl,ordV])) (fun h2=>.no (decide_eq_false (p:=x.n≤(0:Int)) h2)<|.ff<|.ff<|.bin (show binA .add (.int .i64 (↑(0:Nat):Int)) (.int .i64 1)=some (.int .i64 (↑((0:Nat)+(1:Nat)):Int))from inc_i (by omega))<|.cutQ k16_0 [(0,.sl .sh (l.map encA)),(3,.int .i64 (↑((0:Nat)+(1:Nat)):Int))] (ζ1) (fun T hT=>(ih ((0:Nat)+(1:Nat)) hnx T hT).to (by grind[ckVl,ordV])))) (fun h1=>.yes (show(!isName x.name)=true from by have hh:¬(isName x.name=true):=h1;simp[hh])<|.fin ((.ret (.int .i64 3),ζ1)) (by simp only[IsRet];grind[ckVl,ordV]))) (by kernel_rfl)
  |succ j=>
   obtain⟨p,hp⟩:∃p,l[j]?=some p:=⟨l[j],List.getElem?_eq_getElem (by omega)⟩
   exact let ζ1:Heap:={boxes:=[],toks:=[],loops:=[]:Heap};goG 60 _ hT (.len (show lenA false (.sl .sh (l.map encA))=some (.int .i64 (↑l.length))from len_map _)<|.yes (decide_eq_true (p:=(↑(j+(1:Nat)):Int)<(↑l.length:Int)) (by omega))<|.idx (show idxA 2 (.sl .sh (l.map encA)) (.int .i64 (↑(j+(1:Nat)):Int))=some (.ref (encA x).cells)from idx_row hd (by rfl))<|.callI (show Gives cfg (35:FuncId) [.str x.name] (.bool (isName x.name))from name_any _)<|.split (isName x.name=true) (fun h1=>.no (show(!isName x.name)=false from by have hh:isName x.name=true:=h1;simp[hh])<|.idx (show idxA 2 (.sl .sh (l.map encA)) (.int .i64 (↑(j+(1:Nat)):Int))=some (.ref (encA x).cells)from idx_row hd (by rfl))<|.split (x.n≤(0:Int)) (fun h2=>.yes (decide_eq_true (p:=x.n≤(0:Int)) h2)<|.fin ((.ret (.int .i64 1),ζ1)) (by simp only[IsRet];grind[ckVl,ordV])) (fun h2=>.no (decide_eq_false (p:=x.n≤(0:Int)) h2)<|.yes (decide_eq_true (p:=(0:Int)<(↑(j+(1:Nat)):Int)) (by omega))<|.idx (show idxA 2 (.sl .sh (l.map encA)) (.int .i64 (↑(j+(1:Nat)):Int))=some (.ref (encA x).cells)from idx_row hd (by rfl))<|.bin (show binA .sub (.int .i64 (↑(j+(1:Nat)):Int)) (.int .i64 1)=some (.int .i64 ↑j)from dec_i (by omega))<|.idx (show idxA 2 (.sl .sh (l.map encA)) (.int .i64 ↑j)=some (.ref (encA p).cells)from idx_get hp (by rfl))<|.split ((Op.bytesLess x.name p.name||x.name==p.name)=true) (fun h3=>.yes (show(Op.bytesLess x.name p.name||x.name==p.name)=true from h3)<|.fin ((.ret (.int .i64 13),ζ1)) (by simp only[IsRet];grind[ckVl,ordV])) (fun h3=>.no (show(Op.bytesLess x.name p.name||x.name==p.name)=false from Bool.eq_false_iff.2 h3)<|.bin (show binA .add (.int .i64 (↑(j+(1:Nat)):Int)) (.int .i64 1)=some (.int .i64 (↑(j+(1:Nat)+(1:Nat)):Int))from inc_i (by omega))<|.cutQ k16_0 [(0,.sl .sh (l.map encA)),(3,.int .i64 (↑(j+(1:Nat)+(1:Nat)):Int))] (ζ1) (fun T hT=>(ih (j+(1:Nat)+(1:Nat)) hnx T hT).to (by grind[ckVl,ordV]))))) (fun h1=>.yes (show(!isName x.name)=true from by have hh:¬(isName x.name=true):=h1;simp[hh])<|.fin ((.ret (.int .i64 3),ζ1)) (by simp only[IsRet];grind[ckVl,ordV]))) (by kernel_rfl)
theorem ckV_ref(l:List Amount):Gives cfg 16 [.sl .sh (l.map encA)] (.int .i64 (ckV l)):=by
 refine Gives.run (l16 _ _) ?_
 have h:=fun hn=>ckV_ref_loop l hn l 0 rfl
 exact let ζ1:Heap:={boxes:=[],toks:=[],loops:=[]:Heap};goG 60 [] trivial (.len (show lenA false (.sl .sh (l.map encA))=some (.int .i64 (↑l.length))from len_map _)<|.split ((8:Int)<(↑l.length:Int)) (fun h1=>.yes (decide_eq_true (p:=(8:Int)<(↑l.length:Int)) h1)<|.fin ((.ret (.int .i64 4),ζ1)) (by simp only[IsRet];grind[ckV])) (fun h1=>.no (decide_eq_false (p:=(8:Int)<(↑l.length:Int)) h1)<|.cutQ k16_0 [(0,.sl .sh (l.map encA)),(3,.int .i64 0)] (ζ1) (fun T hT=>(h (by omega) T hT).to (by grind[ckV])))) (by kernel_rfl)
theorem ckV_loop(l:List Amount)(hn:l.length≤8):∀(post:List Amount)(i:Nat)(bs:List (List AV))(hd:l.drop i=post)(T:Env)(hT:Has T [(0,.sl .sh (l.map encA)),(8,.sl .sh (l.map encA)),(9,.int .i64 l.length),(10,.int .i64 i)]),
 Goes cfg a15 k15_0 T ⟨bs,[],[]⟩ (IsRet (.int .i64 (ckVl l i post))):=by
 intro post
 induction post with
 |nil=>
  intro i bs hd T hT
  have hge:=drop_ge hd
  exact goG 60 _ hT (.no (decide_eq_false (p:=(↑i:Int)<(↑l.length:Int)) (by omega))<|.fin ((.ret (.int .i64 0),{boxes:=bs,toks:=[],loops:=[]:Heap})) rfl) (by kernel_rfl)
 |cons x post ih=>
  intro i bs hd T hT
  have hlt:=drop_lt hd
  have hnx:=drop_next hd
  cases i with
  |zero=>exact let ζ1:Heap:={boxes:=bs++[[AV.str x.name,.int .i64 x.n]],toks:=[],loops:=[]:Heap};goG 60 _ hT (.yes (decide_eq_true (p:=(↑(0:Nat):Int)<(↑l.length:Int)) (by omega))<|.idx (show idxA 2 (.sl .sh (l.map encA)) (.int .i64 (↑(0:Nat):Int))=some (.ref (encA x).cells)from idx_row hd (by rfl))<|.load (rfl:loadA true 2 {boxes:=bs,toks:=[],loops:=[]:Heap} (.ref [.str x.name,.int .i64 x.n])=some (.agg [.str x.name,.int .i64 x.n]))<|.store (show storeA 2 {boxes:=bs++[[AV.str [],.int .i64 0]],toks:=[],loops:=[]:Heap} (.ptr bs.length (0:Nat)) (.agg [.str x.name,.int .i64 x.n])=some (ζ1)from store_box2 (cs:=[.str [],.int .i64 0]) (cs':=[.str x.name,.int .i64 x.n]) (by simp+zetaDelta) rfl (by simp+zetaDelta [List.set_append]))<|.load (show loadA false 1 ζ1 (.ptr bs.length (0:Nat))=some (.str x.name)from load_box (cs:=[.str x.name,.int .i64 x.n]) (by simp+zetaDelta) rfl)<|.callI (show Gives cfg (34:FuncId) [.str x.name] (.bool (isName x.name))from res_name _)<|.split (isName x.name=true) (fun h1=>.no (show(!isName x.name)=false from by have hh:isName x.name=true:=h1;simp[hh])<|.load (show loadA false 1 ζ1 (.ptr bs.length (1:Nat))=some (.int .i64 x.n)from load_box (cs:=[.str x.name,.int .i64 x.n]) (by simp+zetaDelta) rfl)<|.split (x.n≤(0:Int)) (fun h2=>.yes (decide_eq_true (p:=x.n≤(0:Int)) h2)<|.fin ((.ret (.int .i64 1),ζ1)) (by simp only[IsRet];grind[ckVl,ordV])) (fun h2=>.no (decide_eq_false (p:=x.n≤(0:Int)) h2)<|.ff<|.ff<|.bin (show binA .add (.int .i64 (↑(0:Nat):Int)) (.int .i64 1)=some (.int .i64 (↑((0:Nat)+(1:Nat)):Int))from inc_i (by omega))<|.cutQ k15_0 [(0,.sl .sh (l.map encA)),(8,.sl .sh (l.map encA)),(9,.int .i64 (↑l.length)),(10,.int .i64 (↑((0:Nat)+(1:Nat)):Int))] (ζ1) (fun T hT=>(ih ((0:Nat)+(1:Nat)) (bs++[[AV.str x.name,.int .i64 x.n]]) hnx T hT).to (by grind[ckVl,ordV])))) (fun h1=>.yes (show(!isName x.name)=true from by have hh:¬(isName x.name=true):=h1;simp[hh])<|.fin ((.ret (.int .i64 3),ζ1)) (by simp only[IsRet];grind[ckVl,ordV]))) (by kernel_rfl)
  |succ j=>
   obtain⟨p,hp⟩:∃p,l[j]?=some p:=⟨l[j],List.getElem?_eq_getElem (by omega)⟩
   exact let ζ1:Heap:={boxes:=bs++[[AV.str x.name,.int .i64 x.n]],toks:=[],loops:=[]:Heap};goG 60 _ hT (.yes (decide_eq_true (p:=(↑(j+(1:Nat)):Int)<(↑l.length:Int)) (by omega))<|.idx (show idxA 2 (.sl .sh (l.map encA)) (.int .i64 (↑(j+(1:Nat)):Int))=some (.ref (encA x).cells)from idx_row hd (by rfl))<|.load (rfl:loadA true 2 {boxes:=bs,toks:=[],loops:=[]:Heap} (.ref [.str x.name,.int .i64 x.n])=some (.agg [.str x.name,.int .i64 x.n]))<|.store (show storeA 2 {boxes:=bs++[[AV.str [],.int .i64 0]],toks:=[],loops:=[]:Heap} (.ptr bs.length (0:Nat)) (.agg [.str x.name,.int .i64 x.n])=some (ζ1)from store_box2 (cs:=[.str [],.int .i64 0]) (cs':=[.str x.name,.int .i64 x.n]) (by simp+zetaDelta) rfl (by simp+zetaDelta [List.set_append]))<|.load (show loadA false 1 ζ1 (.ptr bs.length (0:Nat))=some (.str x.name)from load_box (cs:=[.str x.name,.int .i64 x.n]) (by simp+zetaDelta) rfl)<|.callI (show Gives cfg (34:FuncId) [.str x.name] (.bool (isName x.name))from res_name _)<|.split (isName x.name=true) (fun h1=>.no (show(!isName x.name)=false from by have hh:isName x.name=true:=h1;simp[hh])<|.load (show loadA false 1 ζ1 (.ptr bs.length (1:Nat))=some (.int .i64 x.n)from load_box (cs:=[.str x.name,.int .i64 x.n]) (by simp+zetaDelta) rfl)<|.split (x.n≤(0:Int)) (fun h2=>.yes (decide_eq_true (p:=x.n≤(0:Int)) h2)<|.fin ((.ret (.int .i64 1),ζ1)) (by simp only[IsRet];grind[ckVl,ordV])) (fun h2=>.no (decide_eq_false (p:=x.n≤(0:Int)) h2)<|.yes (decide_eq_true (p:=(0:Int)<(↑(j+(1:Nat)):Int)) (by omega))<|.load (show loadA false 1 ζ1 (.ptr bs.length (0:Nat))=some (.str x.name)from load_box (cs:=[.str x.name,.int .i64 x.n]) (by simp+zetaDelta) rfl)<|.bin (show binA .sub (.int .i64 (↑(j+(1:Nat)):Int)) (.int .i64 1)=some (.int .i64 ↑j)from dec_i (by omega))<|.idx (show idxA 2 (.sl .sh (l.map encA)) (.int .i64 ↑j)=some (.ref (encA p).cells)from idx_get hp (by rfl))<|.load (rfl:loadA false 1 ζ1 (.ref [.str p.name])=some (.str p.name))<|.split ((Op.bytesLess x.name p.name||x.name==p.name)=true) (fun h3=>.yes (show(Op.bytesLess x.name p.name||x.name==p.name)=true from h3)<|.fin ((.ret (.int .i64 13),ζ1)) (by simp only[IsRet];grind[ckVl,ordV])) (fun h3=>.no (show(Op.bytesLess x.name p.name||x.name==p.name)=false from Bool.eq_false_iff.2 h3)<|.bin (show binA .add (.int .i64 (↑(j+(1:Nat)):Int)) (.int .i64 1)=some (.int .i64 (↑(j+(1:Nat)+(1:Nat)):Int))from inc_i (by omega))<|.cutQ k15_0 [(0,.sl .sh (l.map encA)),(8,.sl .sh (l.map encA)),(9,.int .i64 (↑l.length)),(10,.int .i64 (↑(j+(1:Nat)+(1:Nat)):Int))] (ζ1) (fun T hT=>(ih (j+(1:Nat)+(1:Nat)) (bs++[[AV.str x.name,.int .i64 x.n]]) hnx T hT).to (by grind[ckVl,ordV]))))) (fun h1=>.yes (show(!isName x.name)=true from by have hh:¬(isName x.name=true):=h1;simp[hh])<|.fin ((.ret (.int .i64 3),ζ1)) (by simp only[IsRet];grind[ckVl,ordV]))) (by kernel_rfl)
theorem ckV_any(l:List Amount):Gives cfg 15 [.sl .sh (l.map encA)] (.int .i64 (ckV l)):=by
 refine Gives.run (l15 _ _) ?_
 have h:=fun hn=>ckV_loop l hn l 0 [] rfl
 exact let ζ1:Heap:={boxes:=[],toks:=[],loops:=[]:Heap};goG 60 [] trivial (.len (show lenA false (.sl .sh (l.map encA))=some (.int .i64 (↑l.length))from len_map _)<|.split ((8:Int)<(↑l.length:Int)) (fun h1=>.yes (decide_eq_true (p:=(8:Int)<(↑l.length:Int)) h1)<|.fin ((.ret (.int .i64 4),ζ1)) (by simp only[IsRet];grind[ckV])) (fun h1=>.no (decide_eq_false (p:=(8:Int)<(↑l.length:Int)) h1)<|.len (show lenA false (.sl .sh (l.map encA))=some (.int .i64 (↑l.length))from len_map _)<|.cutQ k15_0 [(0,.sl .sh (l.map encA)),(8,.sl .sh (l.map encA)),(9,.int .i64 (↑l.length)),(10,.int .i64 0)] (ζ1) (fun T hT=>(h (by omega) T hT).to (by grind[ckV])))) (by kernel_rfl)
end Go.Aa.T
set_option linter.unusedVariables false
set_option linter.unusedSimpArgs false
set_option maxRecDepth 100000
namespace Go.Aa.T
open Go.Aa Go.Proofs
def firstE:List Int→Int
 |[]=>0
 |x::r=>if x=0 then firstE r else x
end Go.Aa.T
set_option linter.unusedVariables false
set_option linter.unusedSimpArgs false
set_option maxRecDepth 100000
namespace Go.Aa.T
open Go.Aa Go.Proofs
structure Node where
 name:List UInt8
 cap:List Amount
 labels:List Pair
 taints:List Taint
 cordon:Bool
def encN(n:Node):AV:=.agg [.str n.name,.sl .sh (n.cap.map encA),.sl .sh (n.labels.map encP),.sl .sh (n.taints.map encT),.bool n.cordon]
end Go.Aa.T
set_option linter.unusedVariables false
set_option linter.unusedSimpArgs false
set_option maxRecDepth 100000
namespace Go.Aa.T
open Go.Aa Go.Proofs
def same2{X:Type}(e:X→X→Bool):List X→List X→Bool
 |[],[]=>true
 |x::a,y::b=>e x y&&same2 e a b
 |_,_=>false
theorem same2_len{X:Type}{e:X→X→Bool}:∀{a b:List X},a.length≠b.length→same2 e a b=false
 |[],[],h=>absurd rfl h
 |[],_::_,_=>rfl
 |_::_,[],_=>rfl
 |x::a,y::b,h=>by
  simp only[List.length_cons,ne_eq,Nat.add_right_cancel_iff]at h
  simp only[same2,same2_len h,Bool.and_false]
theorem same2_iff{X:Type}{e:X→X→Bool}(he:∀x y,e x y=true↔x=y):∀{a b:List X},same2 e a b=true↔a=b
 |[],[]=>by simp[same2]
 |[],_::_=>by simp[same2]
 |_::_,[]=>by simp[same2]
 |x::a,y::b=>by simp[same2,he,same2_iff he]
theorem same2_refl{X:Type}{e:X→X→Bool}(he:∀x y,e x y=true↔x=y)(a:List X):same2 e a a=true:=(same2_iff he).2 rfl
def eqA(x y:Amount):Bool:=x.name==y.name&&x.n==y.n
theorem eqA_iff(x y:Amount):eqA x y=true↔x=y:=by cases x;cases y;simp[eqA]
end Go.Aa.T
set_option linter.unusedVariables false
set_option linter.unusedSimpArgs false
set_option maxRecDepth 100000
namespace Go.Aa.T
open Go.Aa Go.Proofs
def short1(x:Amount):Bool:=decide (x.name.length≤50)
def fewA(l:List Amount):Bool:=decide (l.length≤20)&&l.all short1
theorem fewA_len{l:List Amount}(h:fewA l=true):l.length≤20:=by
 simp only[fewA,Bool.and_eq_true,decide_eq_true_eq]at h;exact h.1
theorem fewA_loop(l:List Amount)(hn:l.length≤20):∀(post:List Amount)(i:Nat)(hd:l.drop i=post)(T:Env)(hT:Has T [(0,.sl .sh (l.map encA)),(3,.int .i64 i)]),
 Goes cfg a13 k13_0 T Heap.nil (IsRet (.bool (post.all short1))):=by
 intro post
 induction post with
 |nil=>
  intro i hd T hT
  have hge:=drop_ge hd
  exact goG 60 _ hT (.len (show lenA false (.sl .sh (l.map encA))=some (.int .i64 (↑l.length))from len_map _)<|.no (decide_eq_false (p:=(↑i:Int)<(↑l.length:Int)) (by omega))<|.fin ((.ret (.bool true),{boxes:=[],toks:=[],loops:=[]:Heap})) rfl) (by kernel_rfl)
 |cons x post ih=>
  intro i hd T hT
  have hlt:=drop_lt hd
  have hnx:=drop_next hd
  exact let ζ1:Heap:={boxes:=[],toks:=[],loops:=[]:Heap};goG 60 _ hT (.len (show lenA false (.sl .sh (l.map encA))=some (.int .i64 (↑l.length))from len_map _)<|.yes (decide_eq_true (p:=(↑i:Int)<(↑l.length:Int)) (by omega))<|.idx (show idxA 2 (.sl .sh (l.map encA)) (.int .i64 ↑i)=some (.ref (encA x).cells)from idx_row hd (by rfl))<|.len (show lenA true (.str x.name)=some (.int .i64 (↑x.name.length))from len_str _)<|.split ((50:Int)<(↑x.name.length:Int)) (fun h1=>.yes (decide_eq_true (p:=(50:Int)<(↑x.name.length:Int)) h1)<|.fin ((.ret (.bool false),ζ1)) (by simp only[IsRet];grind[short1])) (fun h1=>.no (decide_eq_false (p:=(50:Int)<(↑x.name.length:Int)) h1)<|.bin (show binA .add (.int .i64 ↑i) (.int .i64 1)=some (.int .i64 (↑(i+1)))from inc_i (by omega))<|.cutQ k13_0 [(0,.sl .sh (l.map encA)),(3,.int .i64 (↑(i+1)))] (ζ1) (fun T hT=>(ih (i+(1:Nat)) hnx T hT).to (by grind[short1])))) (by kernel_rfl)
theorem fewA_any(l:List Amount):Gives cfg 13 [.sl .sh (l.map encA)] (.bool (fewA l)):=by
 refine Gives.run (l13 _ _) ?_
 have h:=fun hn=>fewA_loop l hn l 0 rfl
 exact let ζ1:Heap:={boxes:=[],toks:=[],loops:=[]:Heap};goG 60 [] trivial (.len (show lenA false (.sl .sh (l.map encA))=some (.int .i64 (↑l.length))from len_map _)<|.split ((20:Int)<(↑l.length:Int)) (fun h1=>.yes (decide_eq_true (p:=(20:Int)<(↑l.length:Int)) h1)<|.fin ((.ret (.bool false),ζ1)) (by simp only[IsRet];grind[fewA])) (fun h1=>.no (decide_eq_false (p:=(20:Int)<(↑l.length:Int)) h1)<|.cutQ k13_0 [(0,.sl .sh (l.map encA)),(3,.int .i64 0)] (ζ1) (fun T hT=>(h (by omega) T hT).to (by grind[fewA])))) (by kernel_rfl)
theorem ofA_loop(l:List Amount)(hn:l.length≤20):∀(post:List Amount)(i:Nat)(acc:List AV)(hd:l.drop i=post)(ha:acc.length=i)(hl:lenOk 2 acc=true)(T:Env)(hT:Has T [(0,.sl .sh (l.map encA)),(3,rowS Heap.nil acc),(4,.int .i64 i)]),
 Goes cfg a14 k14_0 T (rowH Heap.nil acc) (IsRet (rowS Heap.nil (acc++post.map encA))):=by
 intro post
 induction post with
 |nil=>
  intro i acc hd ha hl T hT
  have hge:=drop_ge hd
  exact goG 60 _ hT (.len (show lenA false (.sl .sh (l.map encA))=some (.int .i64 (↑l.length))from len_map _)<|.no (decide_eq_false (p:=(↑i:Int)<(↑l.length:Int)) (by omega))<|.fin ((.ret (setD (setD (setD (setD (setD (setD (updL T [((0:Nat),.sl .sh (l.map encA)),((3:Nat),rowS Heap.nil acc),((4:Nat),.int .i64 ↑i)]) (some 5) (ev (updL T [((0:Nat),.sl .sh (l.map encA)),((3:Nat),rowS Heap.nil acc),((4:Nat),.int .i64 ↑i)]) (.t 4))) (some 6) (ev (setD (updL T [((0:Nat),.sl .sh (l.map encA)),((3:Nat),rowS Heap.nil acc),((4:Nat),.int .i64 ↑i)]) (some 5) (ev (updL T [((0:Nat),.sl .sh (l.map encA)),((3:Nat),rowS Heap.nil acc),((4:Nat),.int .i64 ↑i)]) (.t 4))) (.t 0))) (some 7) (.int .i64 (↑l.length))) (some 8) (.bool (decide ((↑i:Int)<(↑l.length:Int))))) (some 25) (ev (setD (setD (setD (setD (updL T [((0:Nat),.sl .sh (l.map encA)),((3:Nat),rowS Heap.nil acc),((4:Nat),.int .i64 ↑i)]) (some 5) (ev (updL T [((0:Nat),.sl .sh (l.map encA)),((3:Nat),rowS Heap.nil acc),((4:Nat),.int .i64 ↑i)]) (.t 4))) (some 6) (ev (setD (updL T [((0:Nat),.sl .sh (l.map encA)),((3:Nat),rowS Heap.nil acc),((4:Nat),.int .i64 ↑i)]) (some 5) (ev (updL T [((0:Nat),.sl .sh (l.map encA)),((3:Nat),rowS Heap.nil acc),((4:Nat),.int .i64 ↑i)]) (.t 4))) (.t 0))) (some 7) (.int .i64 (↑l.length))) (some 8) (.bool (decide ((↑i:Int)<(↑l.length:Int))))) (.t 3))) (some 2) (ev (setD (setD (setD (setD (setD (updL T [((0:Nat),.sl .sh (l.map encA)),((3:Nat),rowS Heap.nil acc),((4:Nat),.int .i64 ↑i)]) (some 5) (ev (updL T [((0:Nat),.sl .sh (l.map encA)),((3:Nat),rowS Heap.nil acc),((4:Nat),.int .i64 ↑i)]) (.t 4))) (some 6) (ev (setD (updL T [((0:Nat),.sl .sh (l.map encA)),((3:Nat),rowS Heap.nil acc),((4:Nat),.int .i64 ↑i)]) (some 5) (ev (updL T [((0:Nat),.sl .sh (l.map encA)),((3:Nat),rowS Heap.nil acc),((4:Nat),.int .i64 ↑i)]) (.t 4))) (.t 0))) (some 7) (.int .i64 (↑l.length))) (some 8) (.bool (decide ((↑i:Int)<(↑l.length:Int))))) (some 25) (ev (setD (setD (setD (setD (updL T [((0:Nat),.sl .sh (l.map encA)),((3:Nat),rowS Heap.nil acc),((4:Nat),.int .i64 ↑i)]) (some 5) (ev (updL T [((0:Nat),.sl .sh (l.map encA)),((3:Nat),rowS Heap.nil acc),((4:Nat),.int .i64 ↑i)]) (.t 4))) (some 6) (ev (setD (updL T [((0:Nat),.sl .sh (l.map encA)),((3:Nat),rowS Heap.nil acc),((4:Nat),.int .i64 ↑i)]) (some 5) (ev (updL T [((0:Nat),.sl .sh (l.map encA)),((3:Nat),rowS Heap.nil acc),((4:Nat),.int .i64 ↑i)]) (.t 4))) (.t 0))) (some 7) (.int .i64 (↑l.length))) (some 8) (.bool (decide ((↑i:Int)<(↑l.length:Int))))) (.t 3))) (.t 25)) (2:Nat)),rowH Heap.nil acc)) (by simp only[IsRet,List.map_nil,List.append_nil];rfl)) (by kernel_rfl)
 |cons x post ih=>
  intro i acc hd ha hl T hT
  have hlt:=drop_lt hd
  have hnx:=drop_next hd
  exact goG 60 _ hT (.len (show lenA false (.sl .sh (l.map encA))=some (.int .i64 (↑l.length))from len_map _)<|.yes (decide_eq_true (p:=(↑i:Int)<(↑l.length:Int)) (by simp;omega))<|.idx (show idxA 2 (.sl .sh (l.map encA)) (.int .i64 ↑i)=some (.ref (encA x).cells)from idx_row hd (by rfl))<|.load (rfl:loadA false 1 (rowH Heap.nil acc) (.ref [.str x.name])=some (.str x.name))<|.idx (show idxA 2 (.sl .sh (l.map encA)) (.int .i64 ↑i)=some (.ref (encA x).cells)from idx_row hd (by rfl))<|.load (rfl:loadA false 1 (rowH Heap.nil acc) (.ref [.int .i64 x.n])=some (.int .i64 x.n))<|.append (show appendA (2:Nat) (24:Nat) (rowH Heap.nil acc) (rowS Heap.nil acc) (.sl .full [.agg [.str x.name,.int .i64 x.n]])=some ((rowS Heap.nil (acc++[AV.agg [.str x.name,.int .i64 x.n]]),rowH Heap.nil (acc++[AV.agg [.str x.name,.int .i64 x.n]])))from row_append (by omega) hl (by rfl) (by rfl))<|.bin (show binA .add (.int .i64 ↑i) (.int .i64 1)=some (.int .i64 (↑(i+1)))from inc_i (by omega))<|.cutQ k14_0 [(0,.sl .sh (l.map encA)),(3,rowS Heap.nil (acc++[AV.agg [.str x.name,.int .i64 x.n]])),(4,.int .i64 (↑(i+1)))] (rowH Heap.nil (acc++[AV.agg [.str x.name,.int .i64 x.n]])) (fun T hT=>(ih (i+(1:Nat)) (acc++[AV.agg [.str x.name,.int .i64 x.n]]) hnx (by simp;omega) (by exact lenOk_snoc (by assumption) rfl) T hT).to (by simp[encA]))) (by kernel_rfl)
theorem ofA_any(l:List Amount)(hn:l.length≤20):Gives cfg 14 [.sl .sh (l.map encA)] (rowS Heap.nil (l.map encA)):=by
 refine Gives.run (l14 _ _) ?_
 have h:=ofA_loop l hn l 0 [] rfl rfl rfl
 exact goG 60 [] trivial (.cutQ k14_0 [(0,.sl .sh (l.map encA)),(3,.sl .full []),(4,.int .i64 0)] ({boxes:=[],toks:=[],loops:=[]:Heap}) (fun T hT=>(h T hT))) (by kernel_rfl)
instance(n:Node):Dat (encN n):=⟨rfl,rfl⟩
structure FewNd(n:Node):Prop where
 cap:n.cap.length≤20
 labels:n.labels.length≤20
 taints:n.taints.length≤20
end Go.Aa.T
set_option linter.unusedVariables false
set_option linter.unusedSimpArgs false
set_option maxRecDepth 100000
namespace Go.Aa.T
open Go.Aa Go.Proofs
structure Pod where
 name:List UInt8
 owner:List UInt8
 prio:Int
 need:List Amount
 labels:List Pair
 sel:List Term
 tols:List Tol
 key:List UInt8
 most:Int
 node:List UInt8
 hold:Bool
structure PodOk(p:Pod):Prop where
 name:isName p.name=true
 owner:p.owner=[]∨isName p.owner=true
 prio: -1≤p.prio∧p.prio≤1000000
 hold:p.hold=decide (p.prio= -1)
 need:ckV p.need=0
 labels:ckS p.labels=0
 sel:ckM p.sel=0
 tols:ckL p.tols=0
 key:p.key=[]∨isName p.key=true
 most:0≤p.most∧p.most≤128∧(p.key=[]↔p.most=0)
 node:p.node=[]∨isName p.node=true
end Go.Aa.T
set_option linter.unusedVariables false
set_option linter.unusedSimpArgs false
set_option maxRecDepth 100000
namespace Go.Aa.T
open Go.Aa Go.Proofs
def inI(a:Int):Prop:= -9223372036854775808≤a∧a≤9223372036854775807
def bothE(a b:Int):Int:=if a<0 then 1 else if b<0 then 1 else 0
def toldQ(n:Int):Int×Int:=if 9223372036854775807<n then(0,5)else(n,0)
def addQ(a b:Int):Int×Int:=if bothE a b≠0 then(0,bothE a b)else toldQ (a+b)
def subQ(a b:Int):Int×Int:=if bothE a b≠0 then(0,bothE a b)else if a<b then(0,5)else(a-b,0)
def getQ(v:List Amount)(s:List UInt8):Int:=match v.find? (fun x=>x.name==s)with
 |some x=>x.n
 |none=>0
theorem getQ_cons(x:Amount)(v:List Amount)(s:List UInt8):getQ (x::v) s=if x.name=s then x.n else getQ v s:=by
 unfold getQ
 by_cases h:x.name=s
 ·simp[List.find?_cons,h]
 ·simp[List.find?_cons,h]
section
variable{H:Heap}{g:FuncId}{k:Nat}{p:Amount→Bool}
theorem idxV_loop(hd:∀y:Amount,Does cfg (.call (.c (.func g [.ptr k 0])) [.c (encA y)]) H (.bool (p y)) H)(l:List Amount)(hn:l.length<9223372036854775807):∀(post:List Amount)(i:Nat)(hdr:l.drop i=post)(T:Env)
 (hT:Has T [(0,.sl .sh (l.map encA)),(1,.func g [.ptr k 0]),(7,.int .i64 l.length),(8,.int .i64 i)]),
 Goes cfg a84 k84_0 T H (fun r=>r=(.ret (.int .i64 (fidxB p post i)),H)):=by
 intro post
 induction post with
 |nil=>
  intro i hdr T hT
  have hge:=drop_ge hdr
  exact goG 60 _ hT (.no (decide_eq_false (p:=(↑i:Int)<(↑l.length:Int)) (by omega))<|.fin ((.ret (.int .i64 (-1:Int)),H)) rfl) (by kernel_rfl)
 |cons x post ih=>
  intro i hdr T hT
  have hlt:=drop_lt hdr
  have hnx:=drop_next hdr
  have hdx:=hd x
  cases hp:p x with
  |true=>
   rw[hp]at hdx
   have e:fidxB p (x::post) i=i:=by simp[fidxB,hp]
   rw[e]
   exact goG 60 _ hT (.yes (decide_eq_true (p:=(↑i:Int)<(↑l.length:Int)) (by omega))<|.idx (show idxA 2 (.sl .sh (l.map encA)) (.int .i64 ↑i)=some (.ref (encA x).cells)from idx_row hdr (by rfl))<|.load (rfl:loadA true 2 H (.ref [.str x.name,.int .i64 x.n])=some (.agg [.str x.name,.int .i64 x.n]))<|.effY (show Does cfg (.call (.c (.func g [.ptr k (0:Nat)])) [.c (encA x)]) H (.bool true) H from hdx)<|.tt<|.fin ((.ret (.int .i64 ↑i),H)) rfl) (by kernel_rfl)
  |false=>
   rw[hp]at hdx
   have e:fidxB p (x::post) i=fidxB p post (i+1):=by simp[fidxB,hp]
   rw[e]
   exact goG 60 _ hT (.yes (decide_eq_true (p:=(↑i:Int)<(↑l.length:Int)) (by omega))<|.idx (show idxA 2 (.sl .sh (l.map encA)) (.int .i64 ↑i)=some (.ref (encA x).cells)from idx_row hdr (by rfl))<|.load (rfl:loadA true 2 H (.ref [.str x.name,.int .i64 x.n])=some (.agg [.str x.name,.int .i64 x.n]))<|.effY (show Does cfg (.call (.c (.func g [.ptr k (0:Nat)])) [.c (encA x)]) H (.bool false) H from hdx)<|.ff<|.bin (show binA .add (.int .i64 ↑i) (.int .i64 1)=some (.int .i64 (↑(i+1)))from inc_i (by omega))<|.cutQ k84_0 [(0,.sl .sh (l.map encA)),(1,.func g [.ptr k (0:Nat)]),(7,.int .i64 (↑l.length)),(8,.int .i64 (↑(i+1)))] (H) (fun T hT=>(ih (i+(1:Nat)) hnx T hT))) (by kernel_rfl)
theorem idxV(hd:∀y:Amount,Does cfg (.call (.c (.func g [.ptr k 0])) [.c (encA y)]) H (.bool (p y)) H)(l:List Amount)(hn:l.length<9223372036854775807):
 lim cfg (.fn 84) [.sl .sh (l.map encA),.func g [.ptr k 0]] H=some (.ret (.int .i64 (fidxB p l 0)),H):=by
 rw[l84]
 have h:=idxV_loop hd l hn l 0 rfl
 have key:Goes cfg a84 [.c c84] (initEnv [.sl .sh (l.map encA),.func g [.ptr k 0]]) H (fun r=>r=(.ret (.int .i64 (fidxB p l 0)),H)):=by
  exact goG 60 [] trivial (.len (show lenA false (.sl .sh (l.map encA))=some (.int .i64 (↑l.length))from len_map _)<|.cutQ k84_0 [(0,.sl .sh (l.map encA)),(1,.func g [.ptr k (0:Nat)]),(7,.int .i64 (↑l.length)),(8,.int .i64 0)] (H) (fun T hT=>(h T hT))) (by kernel_rfl)
 obtain⟨r,h,rfl⟩:=key
 exact h
end
theorem fidx_get(s:List UInt8):∀(l pre:List Amount)(i:Nat),pre.length=i→(getQ l s=0∧fidxB (fun x:Amount=>x.name==s) l i= -1)∨∃j x,fidxB (fun x:Amount=>x.name==s) l i=(j:Nat)∧(pre++l)[j]?=some x∧getQ l s=x.n
 |[],pre,i,h=>.inl ⟨rfl,rfl⟩
 |x::l,pre,i,h=>by
  by_cases hx:x.name=s
  ·refine .inr ⟨i,x,by simp[fidxB,hx],by simp[←h],by rw[getQ_cons,if_pos hx]⟩
  ·have e1:fidxB (fun x:Amount=>x.name==s) (x::l) i=fidxB (fun x:Amount=>x.name==s) l (i+1):=by simp[fidxB,hx]
   rw[getQ_cons,if_neg hx,e1]
   rcases fidx_get s l (pre++[x]) (i+1) (by simp[h])with h1|⟨j,y,h1,h2,h3⟩
   ·exact .inl h1
   ·exact .inr ⟨j,y,h1,by simpa using h2,h3⟩
theorem get_one(s:List UInt8)(y:Amount):Does cfg (.call (.c (.func 85 [.ptr 0 0])) [.c (encA y)]) ⟨[[.str s]],[],[]⟩ (.bool (y.name==s)) ⟨[[.str s]],[],[]⟩:=by
 have key:Goes cfg a85 [.c c85] (initEnv [encA y,.ptr 0 0]) ⟨[[.str s]],[],[]⟩ (fun r=>r=(.ret (.bool (y.name==s)),⟨[[.str s]]++[(encA y).cells],[],[]⟩)):=by
  exact goG 60 [] trivial (.fin ((.ret (.bool (y.name==s)),{boxes:=[[.str s],[.str y.name,.int .i64 y.n]],toks:=[],loops:=[]:Heap})) rfl) (by kernel_rfl)
 obtain⟨r,h,rfl⟩:=key
 have h2:lim cfg (.fn 85) ([encA y]++[.ptr 0 0]) ⟨[[.str s]],[],[]⟩=some (.ret (.bool (y.name==s)),⟨[[.str s]]++[(encA y).cells],[],[]⟩):=by
  rw[l85];exact h
 have hd:=does_callE h2 rfl rfl
 rwa [show shutA (.bool (y.name==s))=.bool (y.name==s)from rfl,trunc_plain (bs:=[[.str s]]) (ex:=[(encA y).cells]) (ts:=[]) rfl]at hd
theorem getQ_any(v:List Amount)(s:List UInt8)(hn:v.length<9223372036854775807):Gives cfg 36 [.sl .sh (v.map encA),.str s] (.int .i64 (getQ v s)):=by
 refine Gives.run (l36 _ _) ?_
 have h0:=does_callE (xs:=[.sl .sh (v.map encA),.func 85 [.ptr 0 0]]) (caps:=[]) (idxV (g:=85) (k:=0) (get_one s) v hn) rfl rfl
 rw[show shutA (.int .i64 (fidxB (fun y:Amount=>y.name==s) v 0))=.int .i64 (fidxB (fun y:Amount=>y.name==s) v 0)from rfl,
  show trunc (⟨[[.str s]],[],[]⟩:Heap).boxes.length (⟨[[.str s]],[],[]⟩:Heap).toks.length (.int .i64 (fidxB (fun y:Amount=>y.name==s) v 0)) ⟨[[.str s]],[],[]⟩=⟨[[.str s]],[],[]⟩from rfl]at h0
 rcases fidx_get s v [] 0 rfl with⟨h1,h2⟩|⟨j,x,h1,h2,h3⟩
 ·rw[h2]at h0
  rw[h1]
  exact let ζ1:Heap:={boxes:=[[.str s]],toks:=[],loops:=[]:Heap};goG 60 [] trivial (.effY (show Does cfg (.call (.c (.func (84:FuncId) [])) (List.map .c [.sl .sh (v.map encA),.func (85:FuncId) [.ptr 0 0]])) ζ1 (.int .i64 (-1:Int)) ζ1 from h0)<|.tt<|.fin ((.ret (.int .i64 0),ζ1)) rfl) (by kernel_rfl)
 ·rw[h1]at h0
  rw[h3]
  have hx:idxA 2 (.sl .sh (v.map encA)) (.int .i64 (j:Nat))=some (.ref [.str x.name,.int .i64 x.n]):=idx_get (f:=encA) (x:=x) (by simpa using h2) rfl
  exact let ζ1:Heap:={boxes:=[[.str s]],toks:=[],loops:=[]:Heap};goG 60 [] trivial (.effY (show Does cfg (.call (.c (.func (84:FuncId) [])) (List.map .c [.sl .sh (v.map encA),.func (85:FuncId) [.ptr 0 0]])) ζ1 (.int .i64 ↑j) ζ1 from h0)<|.ff<|.idx (show idxA 2 (.sl .sh (v.map encA)) (.int .i64 ↑j)=some (.ref [.str x.name,.int .i64 x.n])from hx)<|.fin ((.ret (.int .i64 x.n),ζ1)) rfl) (by kernel_rfl)
theorem getQ_ref_loop(v:List Amount)(s:List UInt8)(hn:v.length<9223372036854775807):∀(post:List Amount)(i:Nat)(hd:v.drop i=post)(T:Env)(hT:Has T [(0,.sl .sh (v.map encA)),(1,.str s),(5,.int .i64 i)]),
 Goes cfg a37 k37_0 T Heap.nil (IsRet (.int .i64 (getQ post s))):=by
 intro post
 induction post with
 |nil=>
  intro i hd T hT
  have hge:=drop_ge hd
  exact goG 60 _ hT (.len (show lenA false (.sl .sh (v.map encA))=some (.int .i64 (↑v.length))from len_map _)<|.no (decide_eq_false (p:=(↑i:Int)<(↑v.length:Int)) (by omega))<|.fin ((.ret (.int .i64 0),{boxes:=[],toks:=[],loops:=[]:Heap})) rfl) (by kernel_rfl)
 |cons x post ih=>
  intro i hd T hT
  have hlt:=drop_lt hd
  have hnx:=drop_next hd
  rw[getQ_cons]
  by_cases hq:x.name=s
  ·rw[if_pos hq]
   exact goG 60 _ hT (.len (show lenA false (.sl .sh (v.map encA))=some (.int .i64 (↑v.length))from len_map _)<|.yes (decide_eq_true (p:=(↑i:Int)<(↑v.length:Int)) (by omega))<|.idx (show idxA 2 (.sl .sh (v.map encA)) (.int .i64 ↑i)=some (.ref (encA x).cells)from idx_row hd (by rfl))<|.yes (show(x.name==s)=true from(by simpa using hq))<|.idx (show idxA 2 (.sl .sh (v.map encA)) (.int .i64 ↑i)=some (.ref (encA x).cells)from idx_row hd (by rfl))<|.fin ((.ret (.int .i64 x.n),{boxes:=[],toks:=[],loops:=[]:Heap})) rfl) (by kernel_rfl)
  ·rw[if_neg hq]
   exact goG 60 _ hT (.len (show lenA false (.sl .sh (v.map encA))=some (.int .i64 (↑v.length))from len_map _)<|.yes (decide_eq_true (p:=(↑i:Int)<(↑v.length:Int)) (by omega))<|.idx (show idxA 2 (.sl .sh (v.map encA)) (.int .i64 ↑i)=some (.ref (encA x).cells)from idx_row hd (by rfl))<|.no (show(x.name==s)=false from Bool.eq_false_iff.2 (by simpa using hq))<|.bin (show binA .add (.int .i64 ↑i) (.int .i64 1)=some (.int .i64 (↑(i+1)))from inc_i (by omega))<|.cutQ k37_0 [(0,.sl .sh (v.map encA)),(1,.str s),(5,.int .i64 (↑(i+1)))] ({boxes:=[],toks:=[],loops:=[]:Heap}) (fun T hT=>(ih (i+(1:Nat)) hnx T hT))) (by kernel_rfl)
theorem getQ_ref(v:List Amount)(s:List UInt8)(hn:v.length<9223372036854775807):Gives cfg 37 [.sl .sh (v.map encA),.str s] (.int .i64 (getQ v s)):=by
 refine Gives.run (l37 _ _) ?_
 have h:=getQ_ref_loop v s hn v 0 rfl
 exact goG 60 [] trivial (.cutQ k37_0 [(0,.sl .sh (v.map encA)),(1,.str s),(5,.int .i64 0)] ({boxes:=[],toks:=[],loops:=[]:Heap}) (fun T hT=>(h T hT))) (by kernel_rfl)
end Go.Aa.T
set_option linter.unusedVariables false
set_option linter.unusedSimpArgs false
set_option maxRecDepth 100000
namespace Go.Aa.T
open Go.Aa Go.Proofs
def uqG(x:List UInt8):List (List UInt8)→List (List UInt8)
 |[]=>[]
 |y::l=>if y=x then uqG x l else y::uqG y l
def uq:List (List UInt8)→List (List UInt8)
 |[]=>[]
 |x::l=>x::uqG x l
def namesOf(l:List (List UInt8)):List (List UInt8):=uq (isort l)
section
variable(kk n:Nat)(B0:List (List AV))
end
end Go.Aa.T
set_option linter.unusedVariables false
set_option linter.unusedSimpArgs false
set_option maxRecDepth 100000
namespace Go.Aa.T
open Go.Aa Go.Proofs
def allNames(vs:List (List Amount)):List (List UInt8):=vs.flatMap fun v=>v.map Amount.name
end Go.Aa.T
set_option linter.unusedVariables false
set_option linter.unusedSimpArgs false
set_option maxRecDepth 100000
namespace Go.Aa.T
open Go.Aa Go.Proofs
abbrev Rise(l:List (List UInt8)):Prop:=l.Pairwise fun x y=>Op.bytesLess x y=true
theorem uqG_mem(x z:List UInt8):∀{l:List (List UInt8)},z∈uqG x l→z∈l
 |[],h=>by simp[uqG]at h
 |y::l,h=>by
  unfold uqG at h
  split at h
  ·exact List.mem_cons_of_mem _ (uqG_mem x z h)
  ·rcases List.mem_cons.1 h with rfl|h
   ·simp
   ·exact List.mem_cons_of_mem _ (uqG_mem y z h)
theorem uqG_mem2(z:List UInt8):∀{l:List (List UInt8)}{x:List UInt8},z∈l→z=x∨z∈uqG x l
 |[],x,h=>by simp at h
 |y::l,x,h=>by
  unfold uqG
  by_cases e:y=x
  ·rw[if_pos e]
   rcases List.mem_cons.1 h with rfl|h
   ·exact .inl e
   ·exact uqG_mem2 z h
  ·rw[if_neg e]
   rcases List.mem_cons.1 h with rfl|h
   ·exact .inr (by simp)
   ·rcases uqG_mem2 (x:=y) z h with h2|h2
    ·exact .inr (by simp[h2])
    ·exact .inr (by simp[h2])
theorem uq_mem{z:List UInt8}{l:List (List UInt8)}:z∈uq l↔z∈l:=by
 cases l with
 |nil=>simp[uq]
 |cons x l=>
  simp only[uq,List.mem_cons]
  constructor
  ·rintro(h|h)
   ·exact .inl h
   ·exact .inr (uqG_mem x z h)
  ·rintro(h|h)
   ·exact .inl h
   ·exact uqG_mem2 z h
theorem namesOf_mem{l:List (List UInt8)}{z:List UInt8}:z∈namesOf l↔z∈l:=by
 unfold namesOf
 rw[uq_mem,(isort_perm l).mem_iff]
abbrev nms(v:List Amount):List (List UInt8):=v.map Amount.name
def rowT(l:List (List UInt8)):AV:=rowS Heap.nil (l.map .str)
end Go.Aa.T
set_option linter.unusedVariables false
set_option linter.unusedSimpArgs false
set_option maxRecDepth 100000
namespace Go.Aa.T
open Go.Aa Go.Proofs
def stopV(e:Int):AV:=.iface 145 (.agg [.int .i64 e])
theorem stop_ok:Gives cfg 79 [.int .i64 0] (.tuple []):=by
 refine Gives.run (l79 _ _) ?_
 exact goG 60 [] trivial (.ff<|.fin ((.ret (.tuple []),{boxes:=[],toks:=[],loops:=[]:Heap})) rfl) (by kernel_rfl)
theorem stop_pan{e:Int}(h:¬e=0):Pans cfg 79 [.int .i64 e] (stopV e):=by
 refine Pans.run (l79 _ _) ?_
 exact goG 60 [] trivial (.op (.bin .neq (.c (.int .i64 e)) (.c (.int .i64 0))) (.bool true) (pure_step (fun _=>neqT (k:=.i64) h) fun _ _ _=>rfl)<|.tt<|.panicI 145 (.agg [.int .i64 e]) Heap.nil rfl) (by kernel_rfl)
def skF{X:Type}:List X→SK
 |[]=>.full
 |_::_=>.own 0
instance{X:Type}(l:List X)(xs:List AV):Shut (.sl (skF l) xs) (.sl .sh xs):=⟨by cases l<;>exact⟨rfl,rfl⟩⟩
section
variable{X:Type}(enc:X→AV)
def tkR(acc:List X):List Nat:=(rowH Heap.nil (acc.map enc)).toks
theorem tk_nil:tkR enc []=[]:=rfl
theorem tk_cons(x:X)(l:List X):tkR enc (x::l)=[l.length+1]:=by simp[tkR,rowH,Heap.nil]
def rowF(l:List X):AV:=.sl (skF l) (l.map enc)
instance(l:List X):Shut (rowF enc l) (.sl .sh (l.map enc)):=⟨by cases l<;>exact⟨rfl,rfl⟩⟩
theorem rowF_eq(l:List X):rowF enc l=rowS Heap.nil (l.map enc):=by cases l<;>rfl
theorem row_append_T{x:X}{es bytes:Nat}{bs:List (List AV)}{ls:List LRec}{ys:List X}(h:((ys.map enc).length+1)*bytes≤140737488355328)(hl:lenOk es (ys.map enc)=true)(hv:cellsN es (enc x)=true)(hd:dataOk [enc x]=true):
 appendA es bytes ⟨bs,tkR enc ys,ls⟩ (rowF enc ys) (.sl .full [enc x])=some (rowF enc (ys++[x]),⟨bs,tkR enc (ys++[x]),ls⟩):=by
 rw[rowF_eq,rowF_eq]
 have hh:=row_append_map (f:=enc) (x:=x) (H:=Heap.nil) h hl hv hd
 cases ys with
 |nil=>
  simp only[rowS,rowH,List.map_nil,List.nil_append,List.map_cons,tkR,Heap.nil]at hh⊢
  simp only[appendA]at hh⊢
  split at hh
  ·rename_i hc;rw[if_pos hc];rfl
  ·cases hh
 |cons y ys=>
  simp only[rowS,rowH,List.cons_append,List.map_cons,tkR,Heap.nil]at hh⊢
  simp only[appendA]at hh⊢
  split at hh
  ·rename_i hc
   rw[if_pos hc]
   split at hh
   ·rename_i hc2
    rw[if_pos hc2]
    simp only[Option.some.injEq,Prod.mk.injEq,Heap.mk.injEq,true_and,and_true]at hh⊢
    exact hh
   ·cases hh
  ·cases hh
end
end Go.Aa.T
set_option linter.unusedVariables false
set_option linter.unusedSimpArgs false
set_option maxRecDepth 100000
namespace Go.Aa.T
open Go.Aa Go.Proofs
abbrev OfQ:=List UInt8→Int×Int
def madeF(g:OfQ):List (List UInt8)→List Amount→List Amount×Int
 |[],acc=>(acc,0)
 |s::r,acc=>if(g s).2=0 then madeF g r (if 0<(g s).1 then acc++[⟨s,(g s).1⟩]else acc)else([],(g s).2)
def finV(p:List Amount×Int):List Amount×Int:=if p.2=0 then(if 8<p.1.length then([],4)else(p.1,0))else([],p.2)
def madeV(g:OfQ)(vs:List (List Amount)):List Amount×Int:=
 if firstE (vs.map ckV)=0 then finV (madeF g (namesOf (allNames vs)) [])else([],firstE (vs.map ckV))
section
variable(g:OfQ)(f:FuncId)(x0 x1:AV)(vs:List (List Amount))
end
def rgA(v:List Amount):Prop:=∀x∈v,inI x.n
def addV(a b:List Amount):List Amount×Int:=madeV (fun s=>addQ (getQ a s) (getQ b s)) [a,b]
def subV(a b:List Amount):List Amount×Int:=madeV (fun s=>subQ (getQ a s) (getQ b s)) [a,b]
end Go.Aa.T
set_option linter.unusedVariables false
set_option linter.unusedSimpArgs false
set_option maxRecDepth 100000
namespace Go.Aa.T
open Go.Aa Go.Proofs
def aText(x:Amount):List UInt8:=x.name++[61]++itoaF x.n
theorem fmt_any(n:Int)(h0: -9223372036854775808≤n)(h1:n≤9223372036854775807):Gives cfg 53 [.int .i64 n,.int .i64 10] (.str (itoaF n)):=by
 refine Gives.of (H':=Heap.nil) ?_
 rw[lim_ext (g:=fmtE) rfl rfl]
 have:fmtE [.int .i64 n,.int .i64 10] Heap.nil=some (.str (itoaF n),Heap.nil):=by
  simp only[fmtE]
  exact if_pos ⟨trivial,trivial,trivial,h0,h1⟩
 rw[this];rfl
theorem itoaF_len{n:Int}(h0: -9223372036854775808≤n)(h1:n≤9223372036854775807):(itoaF n).length≤21:=by
 rw[itoaF_eq h0 h1];exact Lib.itoa_length_le n h0 h1
theorem tail_consC(c:UInt8)(y:List UInt8)(r:List (List UInt8)):Lib.joinTail [c] (y::r)=c::(y++Lib.joinTail [c] r):=by simp[Lib.joinTail]
def smallI(l:List Amount):Prop:=∀x∈l,-9223372036854775808≤x.n∧x.n≤9223372036854775807
theorem aText_len(x:Amount)(hk:x.name.length≤50)(h: -9223372036854775808≤x.n∧x.n≤9223372036854775807):(aText x).length≤103:=by
 have:=itoaF_len h.1 h.2
 simp[aText]
 omega
theorem aText_loop(l:List Amount)(hn:l.length≤20)(hf:∀x∈l,x.name.length≤50)(hs:smallI l)(hj:(Lib.join (l.map aText) [44]).length≤3000):∀(post:List Amount)(i:Nat)(acc:List (List UInt8))(bs:List (List AV))(hd:l.drop i=post)(ha:acc.length=i)(hall:acc++post.map aText=l.map aText)(T:Env)
 (hT:Has T [(3,rowF AV.str acc),(9,.sl .sh (l.map encA)),(10,.int .i64 l.length),(11,.int .i64 i)]),
 Goes cfg a19 k19_0 T ⟨bs,tkR AV.str acc,[]⟩ (IsRet (.str (Lib.join (l.map aText) [44]))):=by
 intro post
 induction post with
 |nil=>
  intro i acc bs hd ha hall T hT
  have hge:=drop_ge hd
  have e:acc=l.map aText:=by simpa using hall
  subst e
  exact goG 60 _ hT (.no (decide_eq_false (p:=(↑i:Int)<(↑l.length:Int)) (by simp;omega))<|.callG ([.sl (skF (l.map aText)) (List.map .str (l.map aText)),.str [(44:UInt8)]]) (.str (Lib.join (l.map aText) [(44:UInt8)])) (show Gives cfg (54:FuncId) [.sl .sh (List.map .str (l.map aText)),.str [(44:UInt8)]] (.str (Lib.join (l.map aText) [(44:UInt8)]))from join_any _ (by simp;omega) (by omega)) Shuts.p ⟨rfl,rfl⟩<|.fin ((.ret (.str (Lib.join (l.map aText) [(44:UInt8)])),{boxes:=bs,toks:=tkR .str (l.map aText),loops:=[]:Heap})) rfl) (by kernel_rfl)
 |cons x post ih=>
  intro i acc bs hd ha hall T hT
  have hlt:=drop_lt hd
  have hnx:=drop_next hd
  have hk:=hf x (drop_mem hd)
  obtain⟨s1,s2⟩:=hs x (drop_mem hd)
  have hl:=itoaF_len s1 s2
  have hall2:(acc++[aText x])++post.map aText=l.map aText:=by rw[←hall];simp
  have hall3:(acc++[x.name++[61]++itoaF x.n])++post.map aText=l.map aText:=hall2
  exact let ζ1:Heap:={boxes:=bs++[[AV.str x.name,.int .i64 x.n]],toks:=tkR .str acc,loops:=[]:Heap};let ζ2:Heap:={boxes:=bs++[[AV.str x.name,.int .i64 x.n]],toks:=tkR .str (acc++[x.name++[(61:UInt8)]++itoaF x.n]),loops:=[]:Heap};goG 60 _ hT (.yes (decide_eq_true (p:=(↑i:Int)<(↑l.length:Int)) (by simp;omega))<|.idx (show idxA 2 (.sl .sh (l.map encA)) (.int .i64 ↑i)=some (.ref (encA x).cells)from idx_row hd (by rfl))<|.load (rfl:loadA true 2 {boxes:=bs,toks:=tkR .str acc,loops:=[]:Heap} (.ref [.str x.name,.int .i64 x.n])=some (.agg [.str x.name,.int .i64 x.n]))<|.store (show storeA 2 {boxes:=bs++[[AV.str [],.int .i64 0]],toks:=tkR .str acc,loops:=[]:Heap} (.ptr bs.length (0:Nat)) (.agg [.str x.name,.int .i64 x.n])=some (ζ1)from store_box2 (cs:=[.str [],.int .i64 0]) (cs':=[.str x.name,.int .i64 x.n]) (by simp+zetaDelta) rfl (by simp+zetaDelta [List.set_append]))<|.load (show loadA false 1 ζ1 (.ptr bs.length (0:Nat))=some (.str x.name)from load_box (cs:=[.str x.name,.int .i64 x.n]) (by simp+zetaDelta) rfl)<|.bin (show binA .add (.str x.name) (.str [(61:UInt8)])=some (.str (x.name++[(61:UInt8)]))from str_add (by simp;omega))<|.load (show loadA false 1 ζ1 (.ptr bs.length (1:Nat))=some (.int .i64 x.n)from load_box (cs:=[.str x.name,.int .i64 x.n]) (by simp+zetaDelta) rfl)<|.callI (show Gives cfg (53:FuncId) [.int .i64 x.n,.int .i64 10] (.str (itoaF x.n))from fmt_any _ s1 s2)<|.bin (show binA .add (.str (x.name++[(61:UInt8)])) (.str (itoaF x.n))=some (.str (x.name++[(61:UInt8)]++itoaF x.n))from str_add (by simp;omega))<|.append (show appendA (1:Nat) (16:Nat) ζ1 (.sl (skF acc) (List.map .str acc)) (.sl .full [.str (x.name++[(61:UInt8)]++itoaF x.n)])=some ((rowF .str (acc++[x.name++[(61:UInt8)]++itoaF x.n]),ζ2))from row_append_T _ (by simp;omega) (by exact lenSt) (by rfl) (by rfl))<|.bin (show binA .add (.int .i64 ↑i) (.int .i64 1)=some (.int .i64 (↑(i+1)))from inc_i (by omega))<|.cutQ k19_0 [(3,.sl (skF (acc++[x.name++[(61:UInt8)]++itoaF x.n])) (List.map .str (acc++[x.name++[(61:UInt8)]++itoaF x.n]))),(9,.sl .sh (l.map encA)),(10,.int .i64 (↑l.length)),(11,.int .i64 (↑(i+1)))] (ζ2) (fun T hT=>(ih (i+(1:Nat)) (acc++[x.name++[(61:UInt8)]++itoaF x.n]) (bs++[[AV.str x.name,.int .i64 x.n]]) hnx (by simp;omega) hall2 T hT))) (by kernel_rfl)
theorem aText_any(l:List Amount)(hf:fewA l=true)(hs:smallI l):Gives cfg 19 [.sl .sh (l.map encA)] (.str (textOf aText l)):=by
 have hn:=fewA_len hf
 have hf2:∀x∈l,x.name.length≤50:=by
  simp only[fewA,short1,Bool.and_eq_true,List.all_eq_true,decide_eq_true_eq]at hf
  exact hf.2
 have hj:(Lib.join (l.map aText) [44]).length≤3000:=join_len _ (by
  intro s hs'
  obtain⟨x,hx,rfl⟩:=List.mem_map.1 hs'
  exact aText_len x (hf2 x hx) (hs x hx)) (by simpa using hn)
 refine Gives.run (l19 _ _) ?_
 have h:=aText_loop l hn hf2 hs hj l 0 [] [] rfl rfl rfl
 by_cases hl:l=[]
 ·subst hl
  exact goG 60 [] trivial (.len (show lenA false (.sl .sh [])=some (.int .i64 (↑[].length:Int))from len_sl _ _)<|.tt<|.fin ((.ret (.str [(45:UInt8)]),{boxes:=[],toks:=[],loops:=[]:Heap})) rfl) (by kernel_rfl)
 ·have hp:0<l.length:=List.length_pos_iff.2 hl
  have e:textOf aText l=Lib.join (l.map aText) [44]:=by simp[textOf,hl]
  rw[e]
  exact goG 60 [] trivial (.len (show lenA false (.sl .sh (l.map encA))=some (.int .i64 (↑l.length))from len_map _)<|.no (show((↑l.length:Int)==(0:Int))=false from Bool.eq_false_iff.2 (by simp[hl]))<|.len (show lenA false (.sl .sh (l.map encA))=some (.int .i64 (↑l.length))from len_map _)<|.cutQ k19_0 [(3,.sl .full []),(9,.sl .sh (l.map encA)),(10,.int .i64 (↑l.length)),(11,.int .i64 0)] ({boxes:=[],toks:=[],loops:=[]:Heap}) (fun T hT=>(h T hT))) (by kernel_rfl)
end Go.Aa.T
set_option linter.unusedVariables false
set_option linter.unusedSimpArgs false
set_option maxRecDepth 100000
namespace Go.Aa.T
open Go.Aa Go.Proofs
theorem quo10(m:Nat)(h:m≤9223372036854775807):binA .quo (.int .i64 (m:Int)) (.int .i64 10)=some (.int .i64 ((m/10:Nat):Int)):=by
 have e:(m:Int).tdiv 10=((m/10:Nat):Int):=rfl
 simp only[binA,if_true,intBin,if_neg (show¬(10:Int)=0 by decide),e]
 rw[wrap_i64 (by omega) (by omega)]
end Go.Aa.T
set_option linter.unusedVariables false
set_option linter.unusedSimpArgs false
set_option maxRecDepth 100000
namespace Go.Aa.T
open Go.Aa Go.Proofs
end Go.Aa.T
set_option linter.unusedVariables false
set_option linter.unusedSimpArgs false
set_option maxRecDepth 100000
namespace Go.Aa.T
open Go.Aa Go.Proofs
end Go.Aa.T
set_option linter.unusedVariables false
set_option linter.unusedSimpArgs false
set_option maxRecDepth 100000
namespace Go.Aa.T
open Go.Aa Go.Proofs
end Go.Aa.T
set_option linter.unusedVariables false
set_option linter.unusedSimpArgs false
set_option maxRecDepth 100000
namespace Go.Aa.T
open Go.Aa Go.Proofs
end Go.Aa.T
set_option linter.unusedVariables false
set_option linter.unusedSimpArgs false
set_option maxRecDepth 100000
namespace Go.Aa.T
open Go.Aa Go.Proofs
end Go.Aa.T
set_option linter.unusedVariables false
set_option linter.unusedSimpArgs false
set_option maxRecDepth 100000
namespace Go.Aa.T
open Go.Aa Go.Proofs
end Go.Aa.T
set_option linter.unusedVariables false
set_option linter.unusedSimpArgs false
set_option maxRecDepth 100000
namespace Go.Aa.T
open Go.Aa Go.Proofs
end Go.Aa.T
set_option linter.unusedVariables false
set_option linter.unusedSimpArgs false
set_option maxRecDepth 100000
namespace Go.Aa.T
open Go.Aa Go.Proofs
structure VOk(v:List Amount):Prop where
 len:v.length≤8
 name:∀x∈v,isName x.name=true
 pos:∀x∈v,0<x.n
 rise:Rise (nms v)
theorem ckVl_ok{s:List Amount}:∀{post:List Amount}{i:Nat},ckVl s i post=0→s.drop i=post→(∀x∈post,isName x.name=true∧0<x.n)∧Rise (nms post)∧∀j p,i=j+1→s[j]?=some p→Rise (p.name::nms post)
 |[],i,h,hd=>⟨by simp,by simp[Rise],fun j p _ _=>by simp[Rise]⟩
 |x::post,i,h,hd=>by
  unfold ckVl at h
  split at h
  ·rename_i hn
   split at h
   ·cases h
   ·rename_i hp
    split at h
    ·cases h
    ·rename_i ho
     obtain⟨h1,h2,h3⟩:=ckVl_ok h (drop_next hd)
     have h4:=h3 i x rfl (drop_at hd)
     refine⟨fun y hy=> ?_,h4,fun j p hj hp'=> ?_⟩
     ·rcases List.mem_cons.1 hy with rfl|hy
      ·exact⟨hn,by omega⟩
      ·exact h1 y hy
     ·subst hj
      simp only[ordV,hp',Bool.not_eq_true]at ho
      have h5:=bl_not ho
      refine List.Pairwise.cons (fun z hz=> ?_) h4
      rcases List.mem_cons.1 hz with rfl|hz
      ·exact h5
      ·exact bl_trans h5 (List.rel_of_pairwise_cons h4 hz)
  ·cases h
theorem vOk{v:List Amount}(h:ckV v=0):VOk v:=by
 unfold ckV at h
 split at h
 ·rename_i hl
  obtain⟨h1,h2,-⟩:=ckVl_ok h rfl
  exact⟨hl,fun x hx=>(h1 x hx).1,fun x hx=>(h1 x hx).2,h2⟩
 ·cases h
theorem ckVl_of{s:List Amount}:∀{post:List Amount}{i:Nat},s.drop i=post→(∀x∈s,isName x.name=true)→(∀x∈s,0<x.n)→Rise (nms s)→ckVl s i post=0
 |[],i,hd,_,_,_=>rfl
 |x::post,i,hd,h1,h2,h3=>by
  have hx:=drop_mem hd
  have ih:=ckVl_of (drop_next hd) h1 h2 h3
  have hp:=h2 x hx
  have ho:ordV s i x=false:=by
   cases i with
   |zero=>rfl
   |succ j=>
    have hlt:=drop_lt hd
    have hj:s[j]?=some (s[j]'(by omega)):=List.getElem?_eq_getElem _
    simp only[ordV,hj]
    have h4:=List.pairwise_iff_getElem.1 h3 j (j+1) (by simp;omega) (by simp;omega) (by omega)
    simp only[List.getElem_map]at h4
    have e:s[j+1]=x:=by
     have:=drop_at hd
     rw[List.getElem?_eq_getElem hlt]at this
     exact Option.some.inj this
    rw[e]at h4
    exact bl_asym h4
  unfold ckVl
  rw[if_pos (h1 x hx),if_neg (by omega),ho,if_neg (by simp)]
  exact ih
theorem ckV_of{v:List Amount}(h:VOk v):ckV v=0:=by
 unfold ckV
 rw[if_pos h.len]
 exact ckVl_of rfl h.name h.pos h.rise
theorem getQ_none{v:List Amount}{s:List UInt8}(h:s∉nms v):getQ v s=0:=by
 unfold getQ
 have:v.find? (fun x=>x.name==s)=none:=by
  rw[List.find?_eq_none]
  intro x hx e
  exact h (List.mem_map.2 ⟨x,hx,by simpa using e⟩)
 rw[this]
theorem getQ_some{v:List Amount}{s:List UInt8}(h:s∈nms v):∃x∈v,x.name=s∧getQ v s=x.n:=by
 unfold getQ
 cases hf:v.find? (fun x=>x.name==s)with
 |none=>
  obtain⟨x,hx,rfl⟩:=List.mem_map.1 h
  have:=List.find?_eq_none.1 hf x hx
  simp at this
 |some x=>exact⟨x,List.mem_of_find?_eq_some hf,by simpa using List.find?_some hf,rfl⟩
def kq:Bool→SK
 |true=>.sh
 |false=>.full
instance(c:Bool)(l:List AV):Shut (.sl (kq c) l) (.sl .sh l):=⟨by cases c<;>exact⟨rfl,rfl⟩⟩
def resV(c:Bool)(p:List Amount×Int):AV:=.tuple [.sl (kq c) (p.1.map encA),.int .i64 p.2]
instance(c:Bool)(p:List Amount×Int):Res (resV c p) (.tuple [.sl .sh (p.1.map encA),.int .i64 p.2]):=⟨by
 cases c<;>exact⟨rfl,rfl⟩⟩
def resW(c:Bool)(l:List Amount)(e:Int):AV:=.tuple [.sl (kq c) (l.map encA),.int .i64 e]
instance(c:Bool)(l:List Amount)(e:Int):Res (resW c l e) (.tuple [.sl .sh (l.map encA),.int .i64 e]):=⟨by
 cases c<;>exact⟨rfl,rfl⟩⟩
instance(l:List (List UInt8)):Shut (rowT l) (.sl .sh (l.map .str)):=inferInstanceAs(Shut (rowS Heap.nil (l.map .str)) _)
end Go.Aa.T
set_option linter.unusedVariables false
set_option linter.unusedSimpArgs false
set_option maxRecDepth 100000
namespace Go.Aa.T
open Go.Aa Go.Proofs
structure POk(v:List Amount):Prop where
 name:∀x∈v,isName x.name=true
 pos:∀x∈v,0<x.n
 rise:Rise (nms v)
theorem VOk.p{v:List Amount}(h:VOk v):POk v:=⟨h.name,h.pos,h.rise⟩
theorem POk.v{v:List Amount}(h:POk v)(hl:v.length≤8):VOk v:=⟨hl,h.name,h.pos,h.rise⟩
theorem pok_pos{v:List Amount}(h:POk v){s:List UInt8}:s∈nms v↔0<getQ v s:=by
 constructor
 ·intro hs
  obtain⟨x,hx,-,e⟩:=getQ_some hs
  rw[e];exact h.pos x hx
 ·intro hs
  by_cases hm:s∈nms v
  ·exact hm
  ·rw[getQ_none hm]at hs;omega
theorem pok_nn{v:List Amount}(h:POk v)(s:List UInt8):0≤getQ v s:=by
 by_cases hm:s∈nms v
 ·have:=(pok_pos h).1 hm;omega
 ·rw[getQ_none hm];omega
def mk1(g:OfQ)(l:List (List UInt8)):List Amount:=(l.filter fun s=>decide (0<(g s).1)).map fun s=>⟨s,(g s).1⟩
theorem madeF_ok{g:OfQ}:∀{l:List (List UInt8)}(acc:List Amount),(∀s∈l,(g s).2=0)→madeF g l acc=(acc++mk1 g l,0)
 |[],acc,_=>by simp[madeF,mk1]
 |s::l,acc,h=>by
  unfold madeF
  rw[if_pos (h s (by simp)),madeF_ok _ fun t ht=>h t (by simp[ht])]
  by_cases hp:0<(g s).1<;>simp[mk1,hp]
theorem madeF_zero{g:OfQ}:∀{l:List (List UInt8)}{acc:List Amount},(madeF g l acc).2=0→∀s∈l,(g s).2=0
 |[],acc,_,s,hs=>by cases hs
 |t::l,acc,h,s,hs=>by
  unfold madeF at h
  split at h
  ·rename_i h0
   rcases List.mem_cons.1 hs with rfl|hs
   ·exact h0
   ·exact madeF_zero h s hs
  ·rename_i h0;exact absurd h h0
theorem nms_mk1(g:OfQ)(l:List (List UInt8)):nms (mk1 g l)=l.filter fun s=>decide (0<(g s).1):=by
 simp only[nms,mk1,List.map_map]
 conv=>rhs;rw[←List.map_id (l.filter _)]
 rfl
theorem made_two{g:OfQ}{a b:List Amount}(oa:VOk a)(ob:VOk b):madeV g [a,b]=finV (madeF g (namesOf (nms a++nms b)) []):=by
 have e:allNames [a,b]=nms a++nms b:=by simp[allNames]
 unfold madeV
 rw[if_pos (by simp[firstE,ckV_of oa,ckV_of ob]),e]
theorem addQ_nn{a b:Int}(ha:0≤a)(hb:0≤b):addQ a b=toldQ (a+b):=by
 unfold addQ bothE;rw[if_neg (show¬a<0 by omega),if_neg (show¬b<0 by omega),if_neg (by simp)]
theorem told_ok{n:Int}(h:n≤9223372036854775807):toldQ n=(n,0):=by unfold toldQ;rw[if_neg (by omega)]
theorem told_zero{n:Int}(h:(toldQ n).2=0):n≤9223372036854775807:=by
 unfold toldQ at h;split at h
 ·cases h
 ·omega
theorem add_nms{a b:List Amount}(oa:VOk a)(ob:VOk b)(hs:∀s,getQ a s+getQ b s≤9223372036854775807):
 (namesOf (nms a++nms b)).filter (fun s=>decide (0<(addQ (getQ a s) (getQ b s)).1))=namesOf (nms a++nms b):=by
 refine List.filter_eq_self.2 fun s hx=> ?_
 have pa:=pok_nn oa.p s
 have pb:=pok_nn ob.p s
 rw[addQ_nn pa pb,told_ok (hs s)]
 have:0<getQ a s+getQ b s:=by
  rcases List.mem_append.1 (namesOf_mem.1 hx)with h|h
  ·have:=(pok_pos oa.p).1 h;omega
  ·have:=(pok_pos ob.p).1 h;omega
 simpa using this
theorem add_zero{a b:List Amount}(oa:VOk a)(ob:VOk b)(h:(addV a b).2=0):(∀s,getQ a s+getQ b s≤9223372036854775807)∧(namesOf (nms a++nms b)).length≤8:=by
 have pa:=pok_nn oa.p
 have pb:=pok_nn ob.p
 unfold addV at h
 rw[made_two oa ob]at h
 have h0:(madeF (fun s=>addQ (getQ a s) (getQ b s)) (namesOf (nms a++nms b)) []).2=0:=by
  unfold finV at h;split at h
  ·rename_i h0;exact h0
  ·exact h
 have h1:=madeF_zero h0
 have hs:∀s,getQ a s+getQ b s≤9223372036854775807:=fun s=>by
  by_cases hm:s∈nms a++nms b
  ·have:=h1 s (namesOf_mem.2 hm)
   simp only[addQ_nn (pa s) (pb s)]at this
   exact told_zero this
  ·rw[getQ_none fun h=>hm (List.mem_append.2 (.inl h)),getQ_none fun h=>hm (List.mem_append.2 (.inr h))];omega
 refine⟨hs,?_⟩
 rw[madeF_ok _ h1,List.nil_append]at h
 have e2:=nms_mk1 (fun s=>addQ (getQ a s) (getQ b s)) (namesOf (nms a++nms b))
 rw[add_nms oa ob hs]at e2
 rw[←e2,List.length_map]
 unfold finV at h
 rw[if_pos rfl]at h
 split at h
 ·cases h
 ·rename_i h3;exact Nat.le_of_not_lt h3
end Go.Aa.T
set_option linter.unusedVariables false
set_option linter.unusedSimpArgs false
set_option maxRecDepth 100000
namespace Go.Aa.T
open Go.Aa Go.Proofs
theorem subQ_le{a b:Int}(ha:0≤a)(hb:0≤b)(h:(subQ a b).2=0):b≤a:=by
 unfold subQ bothE at h
 rw[if_neg (show¬a<0 by omega),if_neg (show¬b<0 by omega),if_neg (by simp)]at h
 split at h
 ·cases h
 ·omega
theorem sub_zero{a b:List Amount}(oa:VOk a)(ob:VOk b)(h:(subV a b).2=0):∀s,getQ b s≤getQ a s:=by
 have pa:=pok_nn oa.p
 have pb:=pok_nn ob.p
 unfold subV at h
 rw[made_two oa ob]at h
 have h0:(madeF (fun s=>subQ (getQ a s) (getQ b s)) (namesOf (nms a++nms b)) []).2=0:=by
  unfold finV at h;split at h
  ·rename_i h0;exact h0
  ·exact h
 have h1:=madeF_zero h0
 intro s
 by_cases hm:s∈nms a++nms b
 ·have h2:=h1 s (namesOf_mem.2 hm)
  exact subQ_le (pa s) (pb s) h2
 ·rw[getQ_none fun h=>hm (List.mem_append.2 (.inl h)),getQ_none fun h=>hm (List.mem_append.2 (.inr h))];omega
end Go.Aa.T
set_option linter.unusedVariables false
set_option linter.unusedSimpArgs false
set_option maxRecDepth 100000
namespace Go.Aa.T
open Go.Aa Go.Proofs
end Go.Aa.T
set_option linter.unusedVariables false
set_option linter.unusedSimpArgs false
set_option maxRecDepth 100000
namespace Go.Aa.T
open Go.Aa Go.Proofs
end Go.Aa.T
set_option linter.unusedVariables false
set_option linter.unusedSimpArgs false
set_option maxRecDepth 100000
namespace Go.Aa.T
open Go.Aa Go.Proofs
theorem out_rowS{X:Type}(enc:X→AV)(H0:Heap)(l:List X)(e:Int)(H:Heap):IsOut (.tuple [.sl .sh (l.map enc),.int .i64 e]) (.ret (.tuple [rowS H0 (l.map enc),.int .i64 e]),H):=by
 cases l with
 |nil=>exact⟨_,rfl,dataOut_of ⟨rfl,rfl⟩⟩
 |cons x l=>exact⟨_,rfl,dataOut_of ⟨rfl,rfl⟩⟩
theorem out_bad(e:Int)(H:Heap):IsOut (.tuple [.sl .sh [],.int .i64 e]) (.ret (.tuple [.sl .full [],.int .i64 e]),H):=⟨_,rfl,dataOut_of ⟨rfl,rfl⟩⟩
end Go.Aa.T


