/-
  WHAT THE LAW LEANS ON, part 5 of 6: a machine of values and its soundness; the functions of the law upon it; what they come to.
-/
import Derived.Test.YthlhlfiklmmenaaDoorDedgd
import Derived.ChangeShapes
import Derived.ChangeReads
import Derived.ChangeOld
import Derived.ProofKit
import Derived.Carry
import Derived.DataElems
import Derived.Laws.Pointers
import Derived.Lib.SlTrimSet
import Derived.Shelf.Strings.SlTrimAscii
import Derived.Shelf.Strings.OnBuilder
import Derived.Shelf.Strings.Count
import Derived.Shelf.Strings.Search3
import Derived.Sort.Grow
import Derived.Sort.Walk0
import Derived.Sort.EncStr
import Derived.Lib.ParseIntB
import Derived.Lib.Bytealg
import Derived.Lib.LaidTab
import Derived.Lib.AppendIntMem
import Derived.Lib.AtoiErrMem
import Derived.Test.YthlhlfiklmmenaaDoorChecked
import Derived.Tactics
import Derived.Tactics2
import Derived.Defers
import Derived.Recover
set_option linter.unusedVariables false
set_option linter.unusedSimpArgs false
namespace Go.Aa
open Go.RowKit Go.ChangeShapes Go.WideShapes Go.ChangeAt
def fltOf(b:Nat):AV:=if(FloatKind.f64.format.read b).isNaN=true then .nan else .flt b
theorem fltOf_rep{G:Ghost}{w:World}(b:Nat):Rep G w (.float .f64 b) (fltOf b):=by
 unfold fltOf
 split
 ·rename_i h;exact .nan b h
 ·exact .flt b
def tilesT(P:Program):Nat→List Field→Nat→Bool
 |off,[],tot=>off==tot
 |off,f::fs,tot=>(f.offset==off)&&tilesT P (off+P.cellsOf f.type) fs tot
def isAgg(P:Program)(t:TypeId):Bool:=match P.underlying t with
 |some (.struct _)=>true
 |_=>false
def plainT(P:Program):Nat→TypeId→Bool
 |0,_=>false
 |n+1,t=>
  match P.underlying t with
  |some .bool=>true
  |some (.int _)=>true
  |some (.float .f64)=>true
  |some .string=>true
  |some (.slice e)=>decide (0<P.cellsOf e)&&(isAgg P e||P.cellsOf e==1)&&plainT P n e
  |some (.struct fs)=>tilesT P 0 fs.toList (P.cellsOf t)&&fs.toList.all fun f=>plainT P n f.type
  |_=>false
def Tys(R:TypeId→List AV→Prop):List Field→List AV→Prop
 |[],xs=>xs=[]
 |f::fs,xs=>∃a b,xs=a++b∧R f.type a∧Tys R fs b
def Ty(P:Program):Nat→TypeId→List AV→Prop
 |0,_,_=>False
 |n+1,t,xs=>
  match P.underlying t with
  |some .bool=>∃b,xs=[.bool b]
  |some (.int k)=>∃m,xs=[.int k m]∧(Lit.int k m).wf=true
  |some (.float .f64)=>∃b,xs=[fltOf b]∧(Lit.float .f64 b).wf=true
  |some .string=>∃s,xs=[.str s]∧s.length≤9223372036854775807
  |some (.slice e)=>∃l:List AV,xs=[.sl .sh l]∧(l.length≤9223372036854775807∧∀x∈l,if isAgg P e then∃cs,x=.agg cs∧Ty P n e cs else Ty P n e [x])∧l.length*P.bytesOf e≤reachBytes
  |some (.struct fs)=>Tys (Ty P n) fs.toList xs
  |_=>False
section
variable{H:Type}{enc:TypeId×Value→H}{P:Program}{w:World}{base:Nat}{held:Bool}{G:Ghost}
theorem mapM_each{α β:Type}{f:α→Option β}{l:List α}{r:List β}(h:l.mapM f=some r):r.length=l.length∧∀i(h1:i<l.length)(h2:i<r.length),f l[i]=some r[i]:=by
 refine⟨mapM_some_length h,fun i h1 h2=> ?_⟩
 have:=mapM_some_get h i l[i] (List.getElem?_eq_getElem h1)
 rw[this,List.getElem?_eq_getElem h2]
theorem trod_spare:∀(n k:Nat)(t:TypeId)(cs:List Value)(x:DataW H×List MemPlace)(sp:Nat→Bool),plainT P k t=true→DataW.trod enc P w base (fun _=>true) held n t cs=some x→
 (∀p∈x.2,sp p.block=true)→DataW.trod enc P w base sp held n t cs=some x:=by
 intro n
 induction n with
 |zero=>intro k t cs x sp _ h;simp[DataW.trod]at h
 |succ n ih=>
  intro k t cs x sp hp h hs
  cases k with
  |zero=>cases hp
  |succ k=>
   unfold plainT at hp
   unfold DataW.trod at h⊢
   cases hu:P.underlying t with
   |none=>rw[hu]at hp;cases hp
   |some d=>
    rw[hu]at hp h
    cases d with
    |bool=>
     cases cs with
     |nil=>cases h
     |cons v r=>
      cases r with
      |cons v' r'=>cases v<;>cases h
      |nil=>cases v<;>first|exact h|cases h
    |int q=>
     cases cs with
     |nil=>cases h
     |cons v r=>
      cases r with
      |cons v' r'=>cases v<;>cases h
      |nil=>cases v<;>first|exact h|cases h
    |float q=>
     cases cs with
     |nil=>cases h
     |cons v r=>
      cases r with
      |cons v' r'=>cases v<;>cases h
      |nil=>cases v<;>first|exact h|cases h
    |string=>
     cases cs with
     |nil=>cases h
     |cons v r=>
      cases r with
      |cons v' r'=>cases v<;>cases h
      |nil=>cases v<;>first|exact h|cases h
    |slice e=>
     simp only[Bool.and_eq_true,decide_eq_true_eq]at hp
     obtain⟨⟨he,_⟩,hpe⟩:=hp
     cases cs with
     |nil=>cases h
     |cons v r=>
      cases r with
      |cons v' r'=>exact(by cases v<;>first|(cases h;done)|(rename_i oa len cap;cases oa<;>cases len<;>cases cap<;>cases h))
      |nil=>
       cases v with
       |slice oa len cap=>
        cases oa with
        |none=>cases len<;>cases cap<;>first|exact h|cases h
        |some a=>
         simp only at h⊢
         split at h
         ·rename_i hc
          rw[if_pos hc]
          cases he1:(List.range len).mapM fun i=>(w.cells? base (a.add (i*P.cellsOf e)) (P.cellsOf e)).bind (DataW.trod enc P w base (fun _=>true) held n e)with
          |none=>rw[he1]at h;cases h
          |some elems=>
           rw[he1]at h
           simp only[Option.bind_some,if_true]at h
           cases he2:(List.range (cap-len)).mapM fun j=>(w.cells? base (a.add ((len+j)*P.cellsOf e)) (P.cellsOf e)).bind (DataW.trod enc P w base (fun _=>true) held n e)with
           |none=>rw[he2]at h;cases h
           |some rest=>
            rw[he2]at h
            simp only[Option.map_some,Option.some.injEq]at h
            subst h
            have one:∀(i:Nat)(y:DataW H×List MemPlace),y∈elems++rest→(w.cells? base (a.add (i*P.cellsOf e)) (P.cellsOf e)).bind (DataW.trod enc P w base (fun _=>true) held n e)=some y→
             (w.cells? base (a.add (i*P.cellsOf e)) (P.cellsOf e)).bind (DataW.trod enc P w base sp held n e)=some y:=by
             intro i y hy hf
             cases hcs:w.cells? base (a.add (i*P.cellsOf e)) (P.cellsOf e)with
             |none=>rw[hcs]at hf;cases hf
             |some cs'=>
              rw[hcs]at hf
              simp only[Option.bind_some]at hf⊢
              exact ih k e cs' y sp hpe hf fun p hp=>hs p (by
               simp only[List.mem_append,List.mem_flatMap]
               exact .inr ⟨y,by simpa using hy,hp⟩)
            rw[mapM_carry he1 (fun i y _ hy hf=>one i y (by simp[hy]) hf)]
            simp only[Option.bind_some]
            have hrest:(if sp a.block=true then(List.range (cap-len)).mapM fun j=>(w.cells? base (a.add ((len+j)*P.cellsOf e)) (P.cellsOf e)).bind (DataW.trod enc P w base sp held n e)else some [])=some rest:=by
             by_cases hsp:sp a.block=true
             ·rw[if_pos hsp]
              exact mapM_carry he2 (fun j y _ hy hf=>one (len+j) y (by simp[hy]) hf)
             ·rw[if_neg hsp]
              have hr:=(mapM_each he2).1
              rw[List.length_range]at hr
              cases rest with
              |nil=>rfl
              |cons r0 rs=>
               exfalso
               refine hsp (hs (.cell a.block (a.off+0)) ?_)
               simp only[List.mem_append]
               refine .inl (MemPlace.mem_row.2 ⟨0,?_,rfl⟩)
               simp only[List.length_cons]
               exact Nat.mul_pos (by omega) he
            rw[hrest]
            rfl
         ·cases h
       |_=>cases h
    |struct fs=>
     simp only[Bool.and_eq_true,List.all_eq_true]at hp
     simp only at h⊢
     split at h
     ·rename_i hc
      rw[if_pos hc]
      cases he:fs.toList.mapM fun f=>DataW.trod enc P w base (fun _=>true) held n f.type ((cs.drop f.offset).take (P.cellsOf f.type))with
      |none=>rw[he]at h;cases h
      |some ys=>
       rw[he]at h
       simp only[Option.map_some,Option.some.injEq]at h
       subst h
       rw[mapM_carry he (fun f y hf hy hfy=>ih k f.type _ y sp (hp.2 f hf) hfy fun p hp'=>hs p (by simp only[List.mem_flatMap];exact⟨y,hy,hp'⟩))]
       rfl
     ·cases h
    |_=>cases hp
theorem cells_each{a:Addr}{n:Nat}{cs:List Value}(h:w.cells? base a n=some cs):cs.length=n∧∀j(hj:j<cs.length),w.cell? (a.add j)=some cs[j]:=by
 obtain⟨_,h1,h2⟩:=World.cells?_some h
 exact⟨h1,fun j hj=>by rw[h2 j (by omega),List.getElem?_eq_getElem hj]⟩
theorem addr_off(a:Addr)(n:Nat):(a.add n).off=a.off+n:=by unfold Addr.add;split<;>simp_all
theorem addr_block(a:Addr)(n:Nat):(a.add n).block=a.block:=by unfold Addr.add;split<;>rfl
theorem addr_add(a:Addr)(m n:Nat):(a.add m).add n=a.add (m+n):=Addr.add_add a m n
theorem cell_spot{a:Addr}{v:Value}(h:w.cell? a=some v):a.spot=none:=by
 unfold World.cell? at h
 split at h
 ·split at h
  ·cases h
  ·rename_i hs;simpa using hs
 ·cases h
def mkE(P:Program)(e:TypeId)(xs:List AV):AV:=if isAgg P e then .agg xs else xs.headD .undef
theorem single{k:Nat}{e:TypeId}{y:AV}(h:Ty P k e [y])(hn:isAgg P e=false):y.cells=[y]:=by
 cases k with
 |zero=>cases h
 |succ k=>
  unfold Ty at h
  unfold isAgg at hn
  cases hu:P.underlying e with
  |none=>rw[hu]at h;cases h
  |some d=>
   rw[hu]at h hn
   cases d with
   |bool=>obtain⟨b,hb⟩:=h;cases hb;rfl
   |int q=>obtain⟨b,hb,_⟩:=h;cases hb;rfl
   |float q=>
    cases q with
    |f32=>cases h
    |f64=>
     obtain⟨b,hb,_⟩:=h
     simp only[List.cons.injEq,and_true]at hb
     subst hb
     unfold fltOf;split<;>rfl
   |string=>obtain⟨b,hb,_⟩:=h;cases hb;rfl
   |slice q=>obtain⟨b,hb,_⟩:=h;cases hb;rfl
   |struct fs=>cases hn
   |_=>cases h
theorem mkE_cells{k:Nat}{e:TypeId}{xs:List AV}(h:Ty P k e xs)(hx:isAgg P e=true∨xs.length=1):(mkE P e xs).cells=xs:=by
 unfold mkE
 cases ha:isAgg P e with
 |true=>rfl
 |false=>
  rcases hx with h1|h1
  ·rw[ha]at h1;cases h1
  ·obtain⟨y,rfl⟩:=List.length_eq_one_iff.1 h1
   exact single h ha
theorem mkE_ty{k:Nat}{e:TypeId}{xs:List AV}(h:Ty P k e xs)(hx:isAgg P e=true∨xs.length=1):if isAgg P e then∃cs,mkE P e xs=.agg cs∧Ty P k e cs else Ty P k e [mkE P e xs]:=by
 unfold mkE
 cases ha:isAgg P e with
 |true=>exact⟨xs,rfl,h⟩
 |false=>
  rcases hx with h1|h1
  ·rw[ha]at h1;cases h1
  ·obtain⟨y,rfl⟩:=List.length_eq_one_iff.1 h1
   exact h
theorem tiles_le:∀{fs:List Field}{off tot:Nat},tilesT P off fs tot=true→off≤tot
 |[],off,tot,h=>by simp[tilesT]at h;omega
 |f::fs,off,tot,h=>by
  simp only[tilesT,Bool.and_eq_true]at h
  have:=tiles_le h.2
  omega
theorem weights_at{ts:List TypeId}{ds:List (DataW H)}:∀{e:TypeId}{l:List (DataW H)},(DataW.weightsAll P e l).all (·≤reachBytes)=true→∀(i:Nat)(h:i<l.length),(l[i].weights P e).all (·≤reachBytes)=true
 |e,[],_,i,h=>absurd h (by simp)
 |e,d::l,hw,0,h=>by
  simp only[DataW.weightsAll,List.all_append,Bool.and_eq_true]at hw
  exact hw.1
 |e,d::l,hw,i+1,h=>by
  simp only[DataW.weightsAll,List.all_append,Bool.and_eq_true]at hw
  exact weights_at (ts:=ts) (ds:=ds) hw.2 i (by simpa using h)
theorem fields_rep{n:Nat}{R:TypeId→List AV→Prop}{cs:List Value}{tot:Nat}(hcs:cs.length=tot):∀{fs:List Field}{off:Nat}{ys:List (DataW H×List MemPlace)},
 (∀f∈fs,∀y,DataW.trod enc P w base (fun _=>true) held n f.type ((cs.drop f.offset).take (P.cellsOf f.type))=some y→(y.1.weights P f.type).all (·≤reachBytes)=true→
   ∃xs:List AV,xs.length=((cs.drop f.offset).take (P.cellsOf f.type)).length∧(∀(i:Nat)v y,((cs.drop f.offset).take (P.cellsOf f.type))[i]?=some v→xs[i]?=some y→Rep G w v y)∧(∀y∈xs,AV.Data y)∧R f.type xs)→
 tilesT P off fs tot=true→(fs.mapM fun f=>DataW.trod enc P w base (fun _=>true) held n f.type ((cs.drop f.offset).take (P.cellsOf f.type)))=some ys→(DataW.weightsEach P (fs.map (·.type)) (ys.map (·.1))).all (·≤reachBytes)=true→
 ∃xs:List AV,xs.length=tot-off∧(∀(i:Nat)v y,cs[off+i]?=some v→xs[i]?=some y→Rep G w v y)∧(∀y∈xs,AV.Data y)∧Tys R fs xs
 |[],off,ys,_,ht,_,_=>by
  simp[tilesT]at ht
  exact⟨[],by simp;omega,fun i v y _ h=>(by simp at h),fun y hy=>(by cases hy),rfl⟩
 |f::fs,off,ys,ih,ht,hm,hwt=>by
  simp only[tilesT,Bool.and_eq_true,beq_iff_eq]at ht
  obtain⟨hoff,ht⟩:=ht
  have hle:=tiles_le ht
  rw[List.mapM_cons]at hm
  cases h1:DataW.trod enc P w base (fun _=>true) held n f.type ((cs.drop f.offset).take (P.cellsOf f.type))with
  |none=>rw[h1]at hm;cases hm
  |some y=>
   rw[h1]at hm
   cases h2:fs.mapM fun f=>DataW.trod enc P w base (fun _=>true) held n f.type ((cs.drop f.offset).take (P.cellsOf f.type))with
   |none=>rw[h2]at hm;cases hm
   |some ys'=>
    rw[h2]at hm
    cases hm
    simp only[List.map_cons,DataW.weightsEach,List.all_append,Bool.and_eq_true]at hwt
    obtain⟨a,a1,a2,a3,a4⟩:=ih f (by simp) y h1 hwt.1
    obtain⟨b,b1,b2,b3,b4⟩:=fields_rep hcs (fun f hf=>ih f (by simp[hf])) ht h2 hwt.2
    rw[List.length_take,List.length_drop,hoff]at a1
    have la:a.length=P.cellsOf f.type:=by omega
    refine⟨a++b,by rw[List.length_append];omega,fun i v y hv hy=> ?_,fun y hy=> ?_,a,b,rfl,a4,b4⟩
    ·rcases Nat.lt_or_ge i a.length with hi|hi
     ·rw[List.getElem?_append_left hi]at hy
      refine a2 i v y ?_ hy
      rw[List.getElem?_take,if_pos (by omega),List.getElem?_drop,hoff]
      exact hv
     ·rw[List.getElem?_append_right hi]at hy
      refine b2 (i-a.length) v y ?_ hy
      rw[←hv];congr 1;omega
    ·rcases List.mem_append.1 hy with hy|hy
     ·exact a3 y hy
     ·exact b3 y hy
theorem trod_rep(hG:∀a v,w.cell? a=some v→a.off<G.lim a.block):∀(n k:Nat)(t:TypeId)(cs:List Value)(x:DataW H×List MemPlace),plainT P k t=true→DataW.trod enc P w base (fun _=>true) held n t cs=some x→(x.1.weights P t).all (·≤reachBytes)=true→
 ∃xs:List AV,xs.length=cs.length∧(∀(i:Nat)v y,cs[i]?=some v→xs[i]?=some y→Rep G w v y)∧(∀y∈xs,AV.Data y)∧Ty P k t xs:=by
 intro n
 induction n with
 |zero=>intro k t cs x _ h;simp[DataW.trod]at h
 |succ n ih=>
  intro k t cs x hp h hwt
  cases k with
  |zero=>cases hp
  |succ k=>
   unfold plainT at hp
   unfold DataW.trod at h
   unfold Ty
   cases hu:P.underlying t with
   |none=>rw[hu]at hp;cases hp
   |some d=>
    rw[hu]at hp h
    have one:∀(v:Value)(y:AV),Rep G w v y→∀(i:Nat)v' y',[v][i]?=some v'→[y][i]?=some y'→Rep G w v' y':=fun v y hr i v' y' h1 h2=>by
     cases i with
     |zero=>cases h1;cases h2;exact hr
     |succ i=>cases h1
    have done:∀(v:Value)(y:AV),AV.Data y→Rep G w v y→∀z∈[y],AV.Data z:=fun v y hd _ z hz=>by
     rw[List.mem_singleton]at hz;subst hz;exact hd
    cases d with
    |bool=>
     cases cs with
     |nil=>cases h
     |cons v r=>
      cases r with
      |cons v' r'=>cases v<;>cases h
      |nil=>
       cases v with
       |bool b=>exact⟨[.bool b],rfl,one _ _ (.bool b),done _ _ (.bool b) (.bool (w:=w) (G:=G) b),b,rfl⟩
       |_=>cases h
    |int q=>
     cases cs with
     |nil=>cases h
     |cons v r=>
      cases r with
      |cons v' r'=>cases v<;>cases h
      |nil=>
       cases v with
       |int q' m=>
        simp only at h
        split at h
        ·rename_i hc
         obtain⟨rfl,hw⟩:=hc
         exact⟨[.int q' m],rfl,one _ _ (.int q' m),done _ _ (.int q' m) (.int (w:=w) (G:=G) q' m),m,rfl,hw⟩
        ·cases h
       |_=>cases h
    |float q=>
     cases q with
     |f32=>cases hp
     |f64=>
     cases cs with
     |nil=>cases h
     |cons v r=>
      cases r with
      |cons v' r'=>cases v<;>cases h
      |nil=>
       cases v with
       |float q' m=>
        simp only at h
        split at h
        ·rename_i hc
         obtain⟨rfl,hw⟩:=hc
         refine⟨[fltOf m],rfl,one _ _ (fltOf_rep m),done (.float .f64 m) _ ?_ (fltOf_rep m),m,rfl,hw⟩
         unfold fltOf
         split
         ·exact .nan
         ·exact .flt m
        ·cases h
       |_=>cases h
    |string=>
     cases cs with
     |nil=>cases h
     |cons v r=>
      cases r with
      |cons v' r'=>cases v<;>cases h
      |nil=>
       cases v with
       |string b=>
        simp only at h
        split at h
        ·rename_i hc
         refine⟨[.str b.data.toList],rfl,one _ _ (.str (w:=w) (G:=G) b.data.toList),done (.string b) _ (.str _) (.str (w:=w) (G:=G) b.data.toList),_,rfl,?_⟩
         exact hc
        ·cases h
       |_=>cases h
    |slice e=>
     simp only[Bool.and_eq_true,decide_eq_true_eq]at hp
     obtain⟨⟨he,hag⟩,hpe⟩:=hp
     cases cs with
     |nil=>cases h
     |cons v r=>
      cases r with
      |cons v' r'=>exact(by cases v<;>first|(cases h;done)|(rename_i oa len cap;cases oa<;>cases len<;>cases cap<;>cases h))
      |nil=>
       cases v with
       |slice oa len cap=>
        cases oa with
        |none=>
         cases len with
         |succ l=>cases h
         |zero=>
          cases cap with
          |succ l=>cases h
          |zero=>exact⟨[.sl .sh []],rfl,one _ _ (.sl0 none 0 .sh (fun hh=>by cases hh) (fun t hh=>by cases hh)),done (.slice none 0 0) _ (.sl _ _ (fun t hh=>by cases hh) (fun x hx=>by cases hx)) (.sl0 none 0 .sh (fun hh=>by cases hh) (fun t hh=>by cases hh)),[],rfl,⟨by simp,fun x hx=>by cases hx⟩,by simp⟩
        |some a=>
         simp only at h
         split at h
         ·rename_i hc
          cases he1:(List.range len).mapM fun i=>(w.cells? base (a.add (i*P.cellsOf e)) (P.cellsOf e)).bind (DataW.trod enc P w base (fun _=>true) held n e)with
          |none=>rw[he1]at h;cases h
          |some elems=>
           obtain⟨hl,hel⟩:=mapM_each he1
           rw[List.length_range]at hl
           rw[he1,Option.bind_some,Option.map_eq_some_iff]at h
           obtain⟨rest,-,h⟩:=h
           subst h
           simp only[DataW.weights,hu,List.all_cons,List.all_append,Bool.and_eq_true,decide_eq_true_eq,List.length_map]at hwt
           have hwe:=weights_at (ts:=[]) (ds:=[]) hwt.2.1
           have each:∀i,∃p:List Value×List AV,i<len→p.1.length=P.cellsOf e∧(∀j(hj:j<p.1.length),w.cell? (a.add (i*P.cellsOf e+j))=some p.1[j])∧p.2.length=P.cellsOf e∧
            (∀(j:Nat)v y,p.1[j]?=some v→p.2[j]?=some y→Rep G w v y)∧(∀y∈p.2,AV.Data y)∧Ty P k e p.2:=by
            intro i
            by_cases hi:i<len
            ·have:=hel i (by simpa using hi) (by omega)
             simp only[List.getElem_range]at this
             cases hcs:w.cells? base (a.add (i*P.cellsOf e)) (P.cellsOf e)with
             |none=>rw[hcs]at this;cases this
             |some row=>
              rw[hcs]at this
              obtain⟨r1,r2⟩:=cells_each hcs
              obtain⟨xs,x1,x3,x4,x5⟩:=ih k e row _ hpe this (by have:=hwe i (by rw[List.length_map];omega);rwa [List.getElem_map]at this)
              exact⟨(row,xs),fun _=>⟨r1,fun j hj=>by rw[←r2 j hj,addr_add],by simp only;omega,x3,x4,x5⟩⟩
            ·exact⟨([],[]),fun hh=>absurd hh hi⟩
           obtain⟨f,hf⟩:=Classical.axiomOfChoice each
           have hcells:∀i,i<len→(mkE P e (f i).2).cells=(f i).2:=fun i hi=>mkE_cells (hf i hi).2.2.2.2.2 (by
            have:=(hf i hi).2.2.1
            rcases Bool.or_eq_true _ _▸hag with h1|h1
            ·exact .inl h1
            ·exact .inr (by rw[this];simpa using h1))
           have hlen:((List.range len).map fun i=>mkE P e (f i).2).length=len:=by simp
           have hget:∀i(hi:i<((List.range len).map fun i=>mkE P e (f i).2).length),((List.range len).map fun i=>mkE P e (f i).2)[i]=mkE P e (f i).2:=fun i hi=>by simp
           have hdat:∀x∈((List.range len).map fun i=>mkE P e (f i).2),∀y∈x.cells,AV.Data y:=fun x hx y hy=>by
            obtain⟨i,hi,rfl⟩:=List.mem_map.1 hx
            rw[List.mem_range]at hi
            rw[hcells i hi]at hy
            exact(hf i hi).2.2.2.2.1 y hy
           have hrep:Rep G w (.slice (some a) len cap) (.sl .sh ((List.range len).map fun i=>mkE P e (f i).2)):=by
            rcases Nat.eq_zero_or_pos len with h0|h0
            ·subst h0
             exact .sl0 (some a) cap .sh (fun hh=>by cases hh) (fun t hh=>by cases hh)
            ·have hs:a.spot=none:=by
              obtain⟨r1,r2,_⟩:=hf 0 h0
              have:=r2 0 (by omega)
              rw[show 0*P.cellsOf e+0=0 by omega]at this
              exact cell_spot (a:=a) this
             have:=Rep.sl (G:=G) (w:=w) a cap .sh ((List.range len).map fun i=>mkE P e (f i).2) (P.cellsOf e) (fun i j=>((f i).1[j]?).getD Go.undef) (by
              intro hh
              have:=congrArg List.length hh
              rw[hlen]at this
              simp at this;omega)
              (by rw[hlen];exact hc.2.1) hc.2.2 hs (fun i hi=>by rw[hget i hi,hcells i (by omega)];exact(hf i (by omega)).2.2.1) he hdat
              (by
                rw[hlen]
                obtain⟨r1,r2,_⟩:=hf (len-1) (by omega)
                have:=hG _ _ (r2 (P.cellsOf e-1) (by omega))
                have e2:(a.add ((len-1)*P.cellsOf e+(P.cellsOf e-1))).off=a.off+((len-1)*P.cellsOf e+(P.cellsOf e-1)):=addr_off _ _
                rw[e2]at this
                have e3:len*P.cellsOf e=(len-1)*P.cellsOf e+P.cellsOf e:=by
                 conv=>lhs;rw[show len=(len-1)+1 by omega,Nat.add_mul,Nat.one_mul]
                have e4:(a.add ((len-1)*P.cellsOf e+(P.cellsOf e-1))).block=a.block:=addr_block _ _
                rw[e4]at this
                omega)
              (fun i hi j hj=>by
                rw[hlen]at hi
                obtain⟨r1,r2,_⟩:=hf i hi
                have hj':j<(f i).1.length:=by omega
                rw[r2 j hj',List.getElem?_eq_getElem hj'];rfl)
              (fun i hi j hj=>by
                have hi':i<len:=by omega
                obtain⟨r1,r2,r3,r4,_⟩:=hf i hi'
                simp only[hget i hi,hcells i hi']at hj⊢
                have hj':j<(f i).1.length:=by omega
                rw[List.getElem?_eq_getElem hj']
                exact r4 j _ _ (List.getElem?_eq_getElem hj') (List.getElem?_eq_getElem hj))
              (fun hh=>by cases hh) (fun t hh=>by cases hh)
             rw[hlen]at this
             exact this
           refine⟨_,rfl,one _ _ hrep,done _ _ (.sl _ _ (fun t hh=>by cases hh) hdat) hrep,_,rfl,⟨?_,?_⟩,by rw[hlen,←hl];exact Nat.le_trans (Nat.mul_le_mul_right _ (Nat.le_add_right _ _)) hwt.1⟩
           ·rw[hlen]
            have:=hc.2.2
            have:=hc.2.1
            have e:maxLen=9223372036854775807:=rfl
            omega
           ·intro x hx
            obtain⟨i,hi,rfl⟩:=List.mem_map.1 hx
            rw[List.mem_range]at hi
            exact mkE_ty (hf i hi).2.2.2.2.2 (by
             have:=(hf i hi).2.2.1
             rcases Bool.or_eq_true _ _▸hag with h1|h1
             ·exact .inl h1
             ·exact .inr (by rw[this];simpa using h1))
         ·cases h
       |_=>cases h
    |struct fs=>
     simp only[Bool.and_eq_true,List.all_eq_true]at hp
     simp only at h
     split at h
     ·rename_i hc
      cases he:fs.toList.mapM fun f=>DataW.trod enc P w base (fun _=>true) held n f.type ((cs.drop f.offset).take (P.cellsOf f.type))with
      |none=>rw[he]at h;cases h
      |some ys=>
       rw[he]at h
       simp only[Option.map_some,Option.some.injEq]at h
       subst h
       simp only[DataW.weights,hu]at hwt
       obtain⟨xs,x1,x2,x3,x4⟩:=fields_rep (R:=Ty P k) (tot:=P.cellsOf t) (cs:=cs) hc (fun f hf ys hy hw=>ih k f.type _ ys (hp.2 f hf) hy hw) hp.1 he hwt
       exact⟨xs,by omega,fun i v y h1 h2=>x2 i v y (by simpa using h1) h2,x3,x4⟩
     ·cases h
    |_=>cases hp
def TyV(P:Program)(k:Nat)(t:TypeId)(x:AV):Prop:=if isAgg P t then∃cs,x=.agg cs∧Ty P k t cs else Ty P k t [x]
def TyAll(P:Program)(k:Nat):List TypeId→List AV→Prop
 |[],[]=>True
 |t::ts,x::xs=>TyV P k t x∧TyAll P k ts xs
 |_,_=>False
theorem not_agg{k:Nat}{r:Reach}{b0:Nat}{t:TypeId}{v:Value}(hp:plainT P k t=true)(ha:isAgg P t=false)(hval:Value.okWide P w r b0 t v):v.cells= #[v]:=by
 cases k with
 |zero=>cases hp
 |succ k=>
  unfold plainT at hp
  unfold isAgg at ha
  unfold Value.okWide at hval
  cases hu:P.underlying t with
  |none=>rw[hu]at hp;cases hp
  |some d=>
   rw[hu]at hp ha hval
   cases d with
   |struct fs=>cases ha
   |bool=>cases v<;>first|rfl|(simp[Cell.okWide,Cell.ok,hu]at hval;done)
   |int q=>cases v<;>first|rfl|(simp[Cell.okWide,Cell.ok,hu]at hval;done)
   |float q=>cases v<;>first|rfl|(simp[Cell.okWide,Cell.ok,hu]at hval;done)
   |string=>cases v<;>first|rfl|(simp[Cell.okWide,Cell.ok,hu]at hval;done)
   |slice q=>cases v<;>first|rfl|(simp[Cell.okWide,Cell.ok,hu]at hval;done)
   |_=>cases hp
theorem agg_of{r:Reach}{b0:Nat}{t:TypeId}{v:Value}(ha:isAgg P t=true)(hval:Value.okWide P w r b0 t v):∃cs,v=.agg cs:=by
 unfold isAgg at ha
 unfold Value.okWide at hval
 cases hu:P.underlying t with
 |none=>rw[hu]at ha;cases ha
 |some d=>
  rw[hu]at ha hval
  cases d with
  |struct fs=>obtain⟨cs,h,_⟩:=hval;exact⟨cs,h⟩
  |_=>cases ha
theorem one_rep(hG:∀a v,w.cell? a=some v→a.off<G.lim a.block){k:Nat}{r:Reach}{b0:Nat}{t:TypeId}{v:Value}{d:DataW H}{ps:List MemPlace}(hp:plainT P k t=true)(hval:Value.okWide P w r b0 t v)
 (h:DataW.Trod enc P w base (fun _=>true) held t v d ps)(hwt:(d.weights P t).all (·≤reachBytes)=true):∃x,Rep G w v x∧TyV P k t x:=by
 obtain⟨n,hn⟩:=h
 obtain⟨xs,x1,x2,x3,x4⟩:=trod_rep hG n k t _ _ hp hn hwt
 unfold TyV
 cases ha:isAgg P t with
 |true=>
  obtain⟨cs,rfl⟩:=agg_of ha hval
  refine⟨.agg xs,.agg cs xs (by rw[x1];exact Array.length_toList.symm) (fun i h1 h2=>x2 i _ _ ?_ (List.getElem?_eq_getElem h2)),xs,rfl,x4⟩
  rw[show(Value.agg cs).cells=cs from rfl,Array.getElem?_toList,Array.getElem?_eq_getElem h1]
 |false=>
  have hc:=not_agg hp ha hval
  rw[hc]at x1 x2
  obtain⟨y,rfl⟩:=List.length_eq_one_iff.1 (x1.trans rfl)
  exact⟨y,x2 0 v y rfl rfl,x4⟩
theorem all_rep(hG:∀a v,w.cell? a=some v→a.off<G.lim a.block){k:Nat}{r:Reach}{b0:Nat}:∀{ts:List TypeId}{vs:List Value}{ds:List (DataW H)}{ps:List MemPlace},ts.all (plainT P k)=true→
 (∀(j:Nat)t v,ts[j]?=some t→vs[j]?=some v→Value.okWide P w r b0 t v)→DataW.TrodAll enc P w base (fun _=>true) held ts vs ds ps→(DataW.weightsEach P ts ds).all (·≤reachBytes)=true→
 ∃xs:List AV,xs.length=vs.length∧(∀(i:Nat)v y,vs[i]?=some v→xs[i]?=some y→Rep G w v y)∧TyAll P k ts xs
 |[],[],[],ps,_,_,_,_=>⟨[],rfl,fun i v y h=>(by simp at h),trivial⟩
 |t::ts,v::vs,d::ds,ps,hp,hval,⟨p,q,h1,h2,_⟩,hwt=>by
  rw[List.all_cons,Bool.and_eq_true]at hp
  simp only[DataW.weightsEach,List.all_append,Bool.and_eq_true]at hwt
  obtain⟨x,hx,hy⟩:=one_rep hG hp.1 (hval 0 t v rfl rfl) h1 hwt.1
  obtain⟨xs,x1,x2,x3⟩:=all_rep hG hp.2 (fun j t v a b=>hval (j+1) t v a b) h2 hwt.2
  refine⟨x::xs,by simp[x1],fun i v' y' a b=> ?_,hy,x3⟩
  cases i with
  |zero=>cases a;cases b;exact hx
  |succ i=>exact x2 i v' y' a b
 |[],[],_::_,_,_,_,h,_=>h.elim
 |[],_::_,_,_,_,_,h,_=>h.elim
 |_::_,[],_,_,_,_,h,_=>h.elim
 |_::_,_::_,[],_,_,_,h,_=>h.elim
theorem all_shut{w':World}{k:Nat}{sp:Nat→Bool}(hB:Below w.heap.size w w'):∀{ts:List TypeId}{vs:List Value}{ds:List (DataW H)}{ps:List MemPlace},ts.all (plainT P k)=true→
 (∀p∈ps,sp p.block=true)→DataW.TrodAll enc P w base (fun _=>true) held ts vs ds ps→DataW.TrodAll enc P w' base sp held ts vs ds ps
 |[],[],[],ps,_,_,h=>h
 |t::ts,v::vs,d::ds,ps,hp,hs,⟨p,q,⟨n,h1⟩,h2,e⟩=>by
  subst e
  rw[List.all_cons,Bool.and_eq_true]at hp
  refine⟨p,q,⟨n,?_⟩,all_shut hB hp.2 (fun x hx=>hs x (by simp[hx])) h2,rfl⟩
  refine DataW.trod_carry n _ _ _ (trod_spare n k _ _ _ sp hp.1 h1 fun x hx=>hs x (by simp[hx])) (fun x hx=>hB.same (DataW.trod_lt n _ _ _ h1 x hx))
 |[],[],_::_,_,_,_,h=>h.elim
 |[],_::_,_,_,_,_,h=>h.elim
 |_::_,[],_,_,_,_,h=>h.elim
 |_::_,_::_,[],_,_,_,h=>h.elim
theorem all_len{sp:Nat→Bool}:∀{ts:List TypeId}{vs:List Value}{ds:List (DataW H)}{ps:List MemPlace},DataW.TrodAll enc P w base sp held ts vs ds ps→vs.length=ts.length∧ds.length=ts.length
 |[],[],[],_,_=>⟨rfl,rfl⟩
 |t::ts,v::vs,d::ds,ps,⟨p,q,h1,h2,e⟩=>by
  obtain⟨a,b⟩:=all_len h2
  exact⟨by simp[a],by simp[b]⟩
 |[],[],_::_,_,h=>h.elim
 |[],_::_,_,_,h=>h.elim
 |_::_,[],_,_,h=>h.elim
 |_::_,_::_,[],_,h=>h.elim
def GW(w:World):Ghost:={lim:=fun b=>match w.heap[b]? with|some (.cells c _ _)=>c.size|_=>0,nb:=0,μ:=fun _=>0,nt:=0,τ:=fun _=>0,ext:=fun _=>0,cap:=fun _=>0,tes:=fun _=>0,nl:=0,ln:=fun _=>0,mc:=fun _=>0,hole:=fun _=>false}
def Glob0(P:Program)(w:World):Prop:=∀s∈globSpec,∀g,P.globalNamed s.1=some g→∃cs e m,w.heap[g]?=some (.cells cs e m)∧s.2 cs
theorem glob0_none(h:(globSpec.map (fun s=>s.1)).all (fun s=>(P.globalNamed s).isNone)=true)(w:World):Glob0 P w:=fun s hs g hg=>by
 have:=List.all_eq_true.1 h s.1 (List.mem_map_of_mem hs)
 rw[hg]at this;cases this
theorem GW_heap(w:World)(hg:Glob0 P w):HRep P (GW w) w Heap.nil:=
 ⟨fun b hb=>by simp[GW,Array.getElem?_eq_none hb],rfl,rfl,rfl,fun k hk=>absurd hk (by simp[Heap.nil]),fun i j hi=>absurd hi.1 (by simp[GW]),fun k hk=>absurd hk.1 (by simp[GW]),fun t ht=>absurd ht (by simp[Heap.nil]),fun i j hi=>absurd hi (by simp[GW]),
  fun k t hk=>absurd hk.1 (by simp[GW]),fun l hl=>absurd hl (by simp[Heap.nil]),fun i j hi=>absurd hi (by simp[GW]),
  fun s hs g h=>by
   obtain⟨cs,e,m,h1,h2⟩:=hg s hs g h
   exact⟨⟨fun k hk=>absurd hk.1 (by simp[GW]),fun k hk=>absurd hk (by simp[GW]),fun k hk=>absurd hk (by simp[GW])⟩,cs,e,m,h1,h2⟩⟩
theorem GW_lim:∀a v,w.cell? a=some v→a.off<(GW w).lim a.block:=by
 intro a v h
 unfold World.cell? at h
 unfold GW
 simp only
 split at h
 ·rename_i c _ _ hc
  rw[hc]
  split at h
  ·cases h
  ·exact(Array.getElem?_eq_some_iff.1 h).1
 ·cases h
theorem step_below{G:Ghost}{w w':World}{G':Ghost}(h:Step G w G' w')(h1:G.nb=0)(h2:G.nt=0)(h3:G.nl=0):Below w.heap.size w w':=
 ⟨h.os,h.tape,h.output,h.size,fun k hk=>(h.frame k hk (fun i hi=>absurd hi.1 (by omega)) (fun i hi=>absurd hi (by omega)) (fun i hi=>absurd hi (by omega))).1⟩
theorem post_of_below{f:Func}{s:ChangeSpec}{apart fresh handsOn again:Bool}{W W':World}{args:Array Value}{v:Value}{ds gs:List (DataW H)}{before pa pv:List MemPlace}
 (hW:DataW.Whole enc P f.params.toList s.vars apart W args.toList ds gs before)
 (hres:∀(b:Nat)(sp:Nat→Bool)(hd:Bool),DataW.TrodAll enc P W' b sp hd f.resultTypes.toList (v.resultList f.resultTypes.size) (s.fn H (ds++gs)).results [])
 (hargs:∀sp:Nat→Bool,(∀p∈before,sp p.block=true)→DataW.TrodAll enc P W' 0 sp true f.params.toList args.toList (s.fn H (ds++gs)).args pa)
 (hvars:∀sp:Nat→Bool,(∀p∈before,sp p.block=true)→DataW.TrodVars enc P W' sp s.vars (s.fn H (ds++gs)).vars pv)
 (hps:before=pa++pv)(hb:Below W.heap.size W W')
 (hok:∀(j:Nat)(t:TypeId)(r:Value),f.resultTypes[j]?=some t→(v.resultList f.resultTypes.size)[j]?=some r→Value.okWide P W' .any 0 t r):
 s.post enc P f apart fresh handsOn again W args v W':=by
 have hlt:∀p∈before,p.block<W.heap.size:=fun p hp=>hW.lt p hp
 have hold:∀p∈before,(fun b=>decide (b<W.heap.size)) p.block=true:=fun p hp=>by simpa using hlt p hp
 refine⟨ds,gs,before,[],pa,pv,hW,hres _ _ _,hargs _ hold,hvars _ hold,World.keptBut_mono (fun p hp=>⟨hp,?_⟩) (hb.frame (·∈before)),fun _=> ?_⟩
 ·rw[hps,List.mem_append]at hp
  exact Or.inr hp
 ·obtain⟨_,_,_,_,_,hz,hn⟩:=hW
  refine⟨hok,_,_,([]++pa)++pv,⟨[]++pa,pv,trodAll_append (hargs _ (fun _ _=>rfl)) (hres _ _ _),hvars _ (fun _ _=>rfl),rfl,?_,?_⟩,?_⟩
  ·intro b off hp
   have hin:MemPlace.cell b off∈before:=by rw[hps];simpa using hp
   rw[hb.frozen (hlt _ hin)]
   exact hz b off hin
  ·intro ha
   have:=hn ha
   rw[hps]at this
   simpa using this
  ·intro p hp _
   rw[hps]
   simpa using hp
end
section
variable{P:Program}{k:Nat}{t:TypeId}{x:AV}{xs:List AV}
theorem ty_int{q:IntKind}(hu:P.underlying t=some (.int q))(h:Ty P (k+1) t xs):∃m,xs=[.int q m]∧(Lit.int q m).wf=true:=by unfold Ty at h;rw[hu]at h;exact h
theorem tyv_int{q:IntKind}(hu:P.underlying t=some (.int q))(h:TyV P (k+1) t x):∃m,x=.int q m∧(Lit.int q m).wf=true:=by
 unfold TyV isAgg at h;rw[hu]at h
 obtain⟨b,e,hw⟩:=ty_int hu h
 exact⟨b,by simpa using e,hw⟩
theorem tyall_3{a b c:TypeId}(h:TyAll P k [a,b,c] xs):∃x y z,xs=[x,y,z]∧TyV P k a x∧TyV P k b y∧TyV P k c z:=by
 match xs,h with
 |[x,y,z],⟨h,h2,h3,_⟩=>exact⟨x,y,z,rfl,h,h2,h3⟩
end
end Go.Aa
set_option linter.unusedVariables false
set_option linter.unusedSimpArgs false
namespace Go.Aa
open Go.RowKit
variable{P:Program}{G G':Ghost}{w w2 w3:World}{H H':Heap}
def Free(G:Ghost)(b:Nat):Prop:=G.lim b=0∧(∀k,G.on k→b≠G.μ k)∧(∀t,t<G.nt→b≠G.τ t)∧(∀k,k<G.nl→b≠G.ln k)
theorem free_new(hH:HRep P G w H):Free G w.heap.size:=
 ⟨hH.base _ (Nat.le_refl _),fun k hk e=>by have:=hH.μlt hk;omega,fun t ht e=>by
   obtain⟨_,us,u,h,_⟩:=hH.tok t (by rw[←hH.nt];exact ht)
   rw[←e]at h
   exact absurd (Array.getElem?_eq_some_iff.1 h).1 (by omega),
  fun l hl e=>by
   obtain⟨rec,h,_⟩:=hH.loop l (by rw[←hH.nl];exact hl)
   rw[←e]at h
   exact absurd (Array.getElem?_eq_some_iff.1 h).1 (by omega)⟩
theorem lay_step(hH:HRep P G w H)(o:Obj):Step G w G (w.alloc o)∧HRep P G (w.alloc o) H:=by
 have hheap:∀b,b<w.heap.size→(w.alloc o).heap[b]?=w.heap[b]?:=fun b hb=>Below.heap_alloc w o b hb
 have hsz:(w.alloc o).heap.size=w.heap.size+1:=by simp
 have hcell:∀b off,off<G.lim b→(w.alloc o).cell? ⟨b,off,none⟩=w.cell? ⟨b,off,none⟩:=fun b off h=>by
  have hb:b<w.heap.size:=by
   rcases Nat.lt_or_ge b w.heap.size with h1|h1
   ·exact h1
   ·rw[hH.base b h1]at h;omega
  unfold World.cell?
  rw[hheap b hb]
 have hst:Step G w G (w.alloc o):=
  ⟨rfl,rfl,rfl,by omega,fun _=>Nat.le_refl _,hcell,Nat.le_refl _,fun _ _=>rfl,fun _ _=>rfl,fun k h=>.inl ⟨k,h,rfl⟩,fun _ _=>rfl,Nat.le_refl _,fun _ _=>Nat.le_refl _,
   fun _ _ _=>⟨rfl,rfl⟩,fun _ _=>rfl,fun _ h=>.inl ⟨h,rfl⟩,Nat.le_refl _,fun _ _=>rfl,fun _ h1 h2=>absurd h2 (by omega),fun b hb _ _ _=>⟨hheap b hb,rfl⟩⟩
 refine⟨hst,fun b hb=>hH.base b (by omega),hH.nb,hH.nt,hH.nl,fun k hk hh=> ?_,hH.μinj,hH.μlim,fun t ht=> ?_,hH.τinj,hH.μτ,fun l hl=> ?_,hH.linj,hH.glob.step hst⟩
 ·obtain⟨us,e,h,h1,h2⟩:=hH.box k hk hh
  exact⟨us,e,by rw[hheap _ (Array.getElem?_eq_some_iff.1 h).1];exact h,h1,fun i i1 i2=>(h2 i i1 i2).step hst⟩
 ·obtain⟨h0,us,e,h,h1⟩:=hH.tok t ht
  exact⟨h0,us,e,by rw[hheap _ (Array.getElem?_eq_some_iff.1 h).1];exact h,h1⟩
 ·obtain⟨rec,h,h1⟩:=hH.loop l hl
  exact⟨rec,by rw[hheap _ (Array.getElem?_eq_some_iff.1 h).1];exact h,h1.keep hst.keep⟩
theorem free_step{b:Nat}(hf:Free G b)(hb:b<w.heap.size)(hst:Step G w G' w2)(hlt:∀t,t<G.nt→G.τ t<w.heap.size):Free G' b∧w2.heap[b]?=w.heap[b]?:=by
 obtain⟨h0,h1,h2,h3⟩:=hf
 obtain⟨f1,f2⟩:=hst.frame b hb h1 h2 h3
 refine⟨⟨by rw[f2];exact h0,fun k hk e=> ?_,fun t ht e=> ?_,fun l hl e=> ?_⟩,f1⟩
 ·rcases hst.μnew k hk with⟨j,hj,e2⟩|h
  ·exact h1 j hj (e.trans e2)
  ·omega
 ·rcases hst.τnew t ht with⟨ht',e'⟩|h
  ·rw[e']at e;exact h2 t ht' e
  ·omega
 ·rcases Nat.lt_or_ge l G.nl with hl'|hl'
  ·rw[hst.ln l hl']at e;exact h3 l hl' e
  ·have:=hst.lnew l hl' hl;omega
theorem poke{b:Nat}(hf:Free G' b)(hbase:Base G w)(hb:w.heap.size≤b)(hst:Step G w G' w2)(hH2:HRep P G' w2 H')(hother:∀k,k≠b→w3.heap[k]?=w2.heap[k]?)(hsz:w3.heap.size=w2.heap.size)
 (hgl:Glob P G w)
 (hos:w3.os=w2.os)(htape:w3.tape=w2.tape)(hout:w3.output=w2.output):Step G w G' w3∧HRep P G' w3 H':=by
 obtain⟨h0,h1,h2,h3⟩:=hf
 have hkeep:Keep G' w2 G' w3:=
  ⟨fun _=>Nat.le_refl _,fun c off h=>by
    have:c≠b:=fun e=>by subst e;omega
    unfold World.cell?
    rw[hother c this],Nat.le_refl _,fun _ h=>h,fun _ _=>rfl,Nat.le_refl _,fun _ _=>Nat.le_refl _,fun _ _ _=>⟨rfl,rfl⟩,fun _ _=>rfl,Nat.le_refl _,fun _ _=>rfl,fun _ _=>rfl⟩
 refine⟨⟨hos.trans hst.os,htape.trans hst.tape,hout.trans hst.output,by rw[hsz];exact hst.size,hst.lim,fun c off h=> ?_,hst.nb,hst.hole,hst.μ,hst.μnew,hst.mc,hst.nt,hst.ext,hst.τ,hst.tes,hst.τnew,hst.nl,hst.ln,hst.lnew,fun c hc a1 a2 a3=> ?_⟩,
  fun c hc=>hH2.base c (by omega),hH2.nb,hH2.nt,hH2.nl,fun k hk hh=> ?_,hH2.μinj,hH2.μlim,fun t ht=> ?_,hH2.τinj,hH2.μτ,fun l hl=> ?_,hH2.linj,fun sp hs g hg=>by
   obtain⟨g1,cs,e,m,g4,g5⟩:=hH2.glob sp hs g hg
   obtain⟨_,_,_,_,q4,_⟩:=hgl sp hs g hg
   have:=(Array.getElem?_eq_some_iff.1 q4).1
   exact⟨g1,cs,e,m,by rw[hother g (by omega)];exact g4,g5⟩⟩
 ·rw[←hst.cell c off h]
  exact hkeep.cell c off (Nat.lt_of_lt_of_le h (hst.lim c))
 ·obtain⟨e1,e2⟩:=hst.frame c hc a1 a2 a3
  exact⟨by rw[hother c (by omega)];exact e1,e2⟩
 ·obtain⟨us,e,h,g1,g2⟩:=hH2.box k hk hh
  exact⟨us,e,by rw[hother _ (Ne.symm (h1 k ⟨by rw[hH2.nb];exact hk,hh⟩))];exact h,g1,fun i i1 i2=>(g2 i i1 i2).keep hkeep⟩
 ·obtain⟨g0,us,e,h,g1⟩:=hH2.tok t ht
  exact⟨g0,us,e,by rw[hother _ (Ne.symm (h2 t (by rw[hH2.nt];exact ht)))];exact h,g1⟩
 ·obtain⟨rec,h,g1⟩:=hH2.loop l hl
  exact⟨rec,by rw[hother _ (Ne.symm (h3 l (by rw[hH2.nl];exact hl)))];exact h,g1.keep hkeep⟩
theorem tok_lt(hH:HRep P G w H):∀t,t<G.nt→G.τ t<w.heap.size:=fun t ht=>by
 obtain⟨_,us,u,h,_⟩:=hH.tok t (by rw[←hH.nt];exact ht)
 exact(Array.getElem?_eq_some_iff.1 h).1
end Go.Aa
set_option linter.unusedVariables false
set_option linter.unusedSimpArgs false
namespace Go.Aa
open Go.RowKit
variable{P:Program}{G:Ghost}{w w':World}{H:Heap}
theorem below_step(hH:HRep P G w H)(hB:Below w.heap.size w w'):Step G w G w'∧HRep P G w' H:=by
 have hheap:∀b,b<w.heap.size→w'.heap[b]?=w.heap[b]?:=fun b hb=>hB.block b hb
 have hcell:∀b off,off<G.lim b→w'.cell? ⟨b,off,none⟩=w.cell? ⟨b,off,none⟩:=fun b off h=>by
  have hb:b<w.heap.size:=by
   rcases Nat.lt_or_ge b w.heap.size with h1|h1
   ·exact h1
   ·rw[hH.base b h1]at h;omega
  unfold World.cell?
  rw[hheap b hb]
 have hst:Step G w G w':=
  ⟨hB.os,hB.tape,hB.output,hB.size,fun _=>Nat.le_refl _,hcell,Nat.le_refl _,fun _ _=>rfl,fun _ _=>rfl,fun k h=>.inl ⟨k,h,rfl⟩,fun _ _=>rfl,Nat.le_refl _,fun _ _=>Nat.le_refl _,
   fun _ _ _=>⟨rfl,rfl⟩,fun _ _=>rfl,fun _ h=>.inl ⟨h,rfl⟩,Nat.le_refl _,fun _ _=>rfl,fun _ h1 h2=>absurd h2 (by omega),fun b hb _ _ _=>⟨hheap b hb,rfl⟩⟩
 refine⟨hst,fun b hb=>hH.base b (by have:=hB.size;omega),hH.nb,hH.nt,hH.nl,fun k hk hh=> ?_,hH.μinj,hH.μlim,fun t ht=> ?_,hH.τinj,hH.μτ,fun l hl=> ?_,hH.linj,hH.glob.step hst⟩
 ·obtain⟨us,e,h,h1,h2⟩:=hH.box k hk hh
  exact⟨us,e,by rw[hheap _ (Array.getElem?_eq_some_iff.1 h).1];exact h,h1,fun i i1 i2=>(h2 i i1 i2).step hst⟩
 ·obtain⟨h0,us,e,h,h1⟩:=hH.tok t ht
  exact⟨h0,us,e,by rw[hheap _ (Array.getElem?_eq_some_iff.1 h).1];exact h,h1⟩
 ·obtain⟨rec,h,h1⟩:=hH.loop l hl
  exact⟨rec,by rw[hheap _ (Array.getElem?_eq_some_iff.1 h).1];exact h,h1.keep hst.keep⟩
theorem args_two{vs:Array Value}{x y:AV}(h:Args G w vs [x,y]):∃u v,vs= #[u,v]∧Rep G w u x∧Rep G w v y:=by
 obtain⟨h1,h2⟩:=h
 have hs:vs.size=2:=by simpa using h1
 refine⟨vs[0],vs[1],?_,by simpa using h2 0 (by omega) (by simp),by simpa using h2 1 (by omega) (by simp)⟩
 apply Array.ext
 ·simpa using hs
 ·intro i i1 i2
  have:i=0∨i=1:=by omega
  rcases this with rfl|rfl<;>rfl
theorem str_inv{v:Value}{s:List UInt8}(h:Rep G w v (.str s)):v=.string ⟨s.toArray⟩:=by cases h;rfl
def Enters(P:Program)(f:FuncId):Prop:=∀vs w,(callFunc f vs).run P w=.ok (.enter f vs) w
def trimE(xs:List AV)(H:Heap):Option (AV×Heap):=match xs with
 |[.str s,.str cs]=>if s.length≤9223372036854775807∧cs.length<4294967281∧cs.all (fun b=>decide (b.toNat<128))=true then some (.str (Lib.trimS s cs),H)else none
 |_=>none
def strsA:List AV→Option (List (List UInt8))
 |[]=>some []
 |.str s::xs=>(strsA xs).map (s::·)
 |_=>none
theorem ext_trim{f:FuncId}(hf:Enters P f)(h:∀(s cutset:ByteArray)(w:World),s.size≤9223372036854775807→cutset.size<4294967281→(∀(j:Nat)(b:UInt8),cutset.data.toList[j]?=some b→b.toNat<128)→
 Calls P f #[.string s,.string cutset] w fun e w'=>e=.returned (.string ⟨(Lib.trimS s.data.toList cutset.data.toList).toArray⟩)∧Below w.heap.size w w'):ExtOk P f trimE:=by
 intro xs H v H' hg G w vs hH hargs
 unfold trimE at hg
 split at hg
 ·rename_i s cs
  split at hg<;>simp only[Option.some.injEq,Prod.mk.injEq,reduceCtorEq]at hg
  rename_i hc
  obtain⟨rfl,rfl⟩:=hg
  obtain⟨u,u',rfl,h1,h2⟩:=args_two hargs
  cases str_inv h1
  cases str_inv h2
  refine .inl ⟨w,hf _ _,(h ⟨s.toArray⟩ ⟨cs.toArray⟩ w hc.1 hc.2.1 fun j b hb=> ?_).mono fun e w' hh=> ?_,rfl⟩
  ·have:=List.all_eq_true.1 hc.2.2 b (List.mem_of_getElem? hb)
   simpa using this
  ·obtain⟨rfl,hB⟩:=hh
   obtain⟨s1,s2⟩:=below_step hH hB
   exact⟨G,s1,s2,_,rfl,.str _⟩
 ·cases hg
theorem strsA_inv:∀{l:List AV}{ss:List (List UInt8)},strsA l=some ss→l=ss.map .str
 |[],ss,h=>by simp only[strsA,Option.some.injEq]at h;subst h;rfl
 |x::l,ss,h=>by
  cases x with
  |str s=>
   simp only[strsA]at h
   cases hl:strsA l with
   |none=>rw[hl]at h;cases h
   |some ss'=>
    rw[hl]at h
    simp only[Option.map_some,Option.some.injEq]at h
    subst h
    rw[strsA_inv hl];rfl
  |_=>cases h
end Go.Aa
set_option linter.unusedVariables false
set_option linter.unusedSimpArgs false
namespace Go.Aa
open Go.RowKit
variable{P:Program}{G:Ghost}{w w':World}{H:Heap}
def insS(x:List UInt8):List (List UInt8)→List (List UInt8)
 |[]=>[x]
 |y::l=>bif Op.bytesLess y x then y::insS x l else x::y::l
def isort:List (List UInt8)→List (List UInt8)
 |[]=>[]
 |x::l=>insS x (isort l)
theorem insS_perm(x:List UInt8):∀l,(insS x l).Perm (x::l)
 |[]=>.refl _
 |y::l=>by
  unfold insS
  cases Op.bytesLess y x
  ·exact .refl _
  ·exact((insS_perm x l).cons y).trans (.swap x y l)
theorem isort_perm:∀l,(isort l).Perm l
 |[]=>.refl _
 |x::l=>(insS_perm x _).trans ((isort_perm l).cons x)
theorem le_less{x y:List UInt8}(h:Op.bytesLess y x=false):x≤y:=by
 rw[Go.Proofs.bytesLess_eq]at h
 simpa using h
theorem insS_sorted(x:List UInt8):∀{l:List (List UInt8)},l.Pairwise (·≤·)→(insS x l).Pairwise (·≤·)
 |[],_=>by simp[insS]
 |y::l,h=>by
  have h1:∀{z},z∈l→y≤z:=fun hz=>List.rel_of_pairwise_cons h hz
  have h2:=List.Pairwise.of_cons h
  unfold insS
  cases hb:Op.bytesLess y x with
  |false=>
   refine List.Pairwise.cons (fun z hz=> ?_) h
   rcases List.mem_cons.1 hz with rfl|hz
   ·exact le_less hb
   ·exact List.le_trans (le_less hb) (h1 hz)
  |true=>
   refine List.Pairwise.cons (fun z hz=> ?_) (insS_sorted x h2)
   rcases List.mem_cons.1 ((insS_perm x l).mem_iff.1 hz)with rfl|hz
   ·rw[Go.Proofs.bytesLess_eq,decide_eq_true_eq]at hb
    exact List.le_of_lt hb
   ·exact h1 hz
theorem isort_sorted:∀l,(isort l).Pairwise (·≤·)
 |[]=>.nil
 |x::l=>insS_sorted x (isort_sorted l)
theorem isort_eq(l:List (List UInt8)):(l.mergeSort fun x y=>decide (x≤y))=isort l:=by
 refine List.Perm.eq_of_pairwise (le:=fun a b=>a≤b) (fun a b _ _ h1 h2=>List.le_antisymm h1 h2) ?_ (isort_sorted l) ((List.mergeSort_perm l _).trans (isort_perm l).symm)
 have:=List.pairwise_mergeSort (le:=fun x y:List UInt8=>decide (x≤y)) (fun a b c h1 h2=>by simp only[decide_eq_true_eq]at*;exact List.le_trans h1 h2)
  (fun a b=>by simp only[Bool.or_eq_true,decide_eq_true_eq];exact List.le_total a b) l
 exact this.imp fun h=>by simpa using h
theorem isort_length(l:List (List UInt8)):(isort l).length=l.length:=(isort_perm l).length_eq
def sortE(xs:List AV)(H:Heap):Option (AV×Heap):=match xs with
 |[.msl k off n es]=>match H.boxes[k]? with
  |some cs=>if off=0∧es=1∧0<n∧n≤cs.length∧n≤140737488355328 then(match strsA (cs.take n)with
   |some ss=>some (.tuple [],{H with boxes:=H.boxes.set k ((isort ss).map .str++cs.drop n)})
   |none=>none)else none
  |none=>none
 |[.sl _ []]=>some (.tuple [],H)
 |_=>none
theorem args_1{vs:Array Value}{x:AV}(h:Args G w vs [x]):∃u,vs= #[u]∧Rep G w u x:=by
 obtain⟨h1,h2⟩:=h
 have hs:vs.size=1:=by simpa using h1
 refine⟨vs[0],?_,by simpa using h2 0 (by omega) (by simp)⟩
 apply Array.ext
 ·simpa using hs
 ·intro i i1 i2
  have:i=0:=by omega
  subst this;rfl
theorem box_turn{k:Nat}{cs xs:List AV}{us us':Array Value}{e:TypeId}{vs:List Value}(hH:HRep P G w H)(hk:G.on k)(hcs:H.boxes[k]?=some cs)(hne:cs≠[])(hb:w.heap[G.μ k]?=some (.cells us e (0,0)))
 (hle:xs.length≤cs.length)(hvr:ARep G w vs xs)(hcell:xs.all cellOk=true)(hus:us'.toList=vs++us.toList.drop vs.length)
 (h1:w'.os=w.os)(h2:w'.tape=w.tape)(h3:w'.output=w.output)(h4:w.heap.size≤w'.heap.size)(h5:w'.heap[G.μ k]?=some (.cells us' e (0,0)))(h6:∀b,b<w.heap.size→b≠G.μ k→w'.heap[b]?=w.heap[b]?):
 Step G w G w'∧HRep P G w' {H with boxes:=H.boxes.set k (xs++cs.drop xs.length)}:=by
 obtain⟨w1,hr,s1,s2⟩:=write_box (off:=0) hH hk hcs hne (by omega) hvr hcell
 obtain⟨hlt,hcs'⟩:=List.getElem?_eq_some_iff.1 hcs
 obtain⟨us0,e0,hb0,⟨hsz,hmc⟩,-⟩:=hH.box k hlt hk.2
 rw[hb]at hb0
 simp only[Option.some.injEq,Obj.cells.injEq]at hb0
 obtain⟨rfl,rfl,-⟩:=hb0
 rw[hcs']at hsz
 have hone:∀c∈vs,c.oneCell'=true:=by
  intro c hc
  obtain⟨i,hi,rfl⟩:=List.getElem_of_mem hc
  have hi2:i<xs.length:=by rw[←hvr.1];exact hi
  exact(hvr.2 i hi hi2).one (List.all_eq_true.1 hcell _ (List.getElem_mem hi2))
 have hrun:=run_storeCells_at P (G.μ k) 0 e vs 0 us w hb (by have:=hvr.1;omega) hone
 simp only[Nat.add_zero,List.take_zero,List.nil_append,Nat.zero_add]at hrun
 rw[hrun]at hr
 simp only[Result.ok.injEq,true_and]at hr
 rw[←hus,Array.toArray_toList]at hr
 have e1:paste cs 0 xs=xs++cs.drop xs.length:=by rw[paste_spec _ _ _ (by omega)];simp
 rw[e1]at s2
 have hB:Below w1.heap.size w1 w':=by
  rw[←hr]
  refine⟨h1,h2,h3,by simpa using h4,fun b hb'=> ?_⟩
  by_cases eb:b=G.μ k
  ·subst eb
   rw[h5]
   exact(setRow_heap w (G.μ k) us us' e (0,0) hb).symm
  ·rw[setRow_other _ _ _ _ eb]
   exact h6 b (by simpa using hb') eb
 obtain⟨t1,t2⟩:=below_step s2 hB
 exact⟨s1.trans t1,t2⟩
theorem ext_sort {f : FuncId} (hf : Enters P f)
 (h0 : ∀ (a : Option Addr) (c : Nat) (w : World), Calls P f #[.slice a 0 c] w fun e w' => e = .returned (.tuple #[]) ∧ w' = w)
 (h : ∀ (blk off cap : Nat) (ss : List (List UInt8)) (w : World), Sort.Holds Proofs.encStr w blk off ss.toArray → blk < w.heap.size → ss.length < 4611686018427387904 →
   Calls P f #[.slice (some ⟨blk, off, none⟩) ss.length cap] w fun e w' => e = .returned (.tuple #[]) ∧ ∃ n os, w' = Sort.grow (Sort.putRow Proofs.encStr (Sort.ahead w n) blk off (ss.mergeSort fun x y => decide (x ≤ y)).toArray) os) : ExtOk P f sortE := by
 intro az H v H' hg G w vs hH hargs
 unfold sortE at hg
 split at hg
 · rename_i k off n es
   split at hg
   · rename_i cs hcs
     split at hg
     · rename_i hc
       obtain ⟨rfl, rfl, hn0, hn, hbig⟩ := hc
       split at hg
       · rename_i ss hss
         simp only [Option.some.injEq, Prod.mk.injEq] at hg
         obtain ⟨rfl, rfl⟩ := hg
         obtain ⟨u, rfl, hr⟩ := args_1 hargs
         cases hr with
         | msl _ _ _ c _ hk hnc hcm he0 hcap =>
         obtain ⟨hlt, hcs'⟩ := List.getElem?_eq_some_iff.1 hcs
         obtain ⟨us, e, hb, ⟨hsz, hmc⟩, hrep⟩ := hH.box k hlt hk.2
         rw [hcs'] at hsz hrep
         have hl := strsA_inv hss
         have hsl : ss.length = n := by
          have := congrArg List.length hl
          simp only [List.length_take, List.length_map] at this
          omega
         have hat : ∀ j (hj : j < ss.length), us[j]? = some (.string ⟨(ss[j]).toArray⟩) := fun j hj => by
          have h1 : (cs.take n)[j]? = some (.str ss[j]) := by rw [hl, List.getElem?_map, List.getElem?_eq_getElem hj]; rfl
          rw [List.getElem?_take, if_pos (by omega)] at h1
          obtain ⟨h2, h3⟩ := List.getElem?_eq_some_iff.1 h1
          have := hrep j (by omega) h2
          rw [h3] at this
          rw [Array.getElem?_eq_getElem (by omega), str_inv this]
         have hHo : Sort.Holds Proofs.encStr w (G.μ k) 0 ss.toArray := fun j hj => by
          have hj' : j < ss.length := by simpa using hj
          have h1 := hat j hj'
          constructor
          · simp only [World.cell?, hb, Option.isSome_none, Bool.false_eq_true, if_false, Nat.zero_add]
            rw [h1, getElem!_pos ss.toArray j hj]
            simp [Proofs.encStr]
          · simp [World.frozen?, hb]
         have hcall := h (G.μ k) 0 c ss w hHo (Array.getElem?_eq_some_iff.1 hb).1 (by omega)
         rw [hsl] at hcall
         refine .inl ⟨w, hf _ _, hcall.mono fun e1 w' hh => ?_, rfl⟩
         obtain ⟨rfl, m, os, rfl⟩ := hh
         rw [isort_eq]
         have hil := isort_length ss
         have hone : ∀ j (hj : j < (isort ss).length), ((isort ss).toArray)[j]! = (isort ss)[j] := fun j hj => by
          rw [getElem!_pos (isort ss).toArray j (by simpa using hj)]; simp
         obtain ⟨s1, s2⟩ := box_turn (w' := Sort.grow (Sort.putRow Proofs.encStr (Sort.ahead w m) (G.μ k) 0 (isort ss).toArray) os) (xs := (isort ss).map .str) (vs := (isort ss).map fun s => Value.string ⟨s.toArray⟩)
          (us' := Sort.putCells Proofs.encStr 0 (isort ss).toArray us) hH hk hcs (by intro e; rw [e] at hn; simp at hn; omega) hb (by simp; omega)
          ⟨by simp, fun i i1 i2 => by simp only [List.getElem_map]; exact .str _⟩ (List.all_eq_true.2 fun x hx => by obtain ⟨s, -, rfl⟩ := List.mem_map.1 hx; rfl)
          (by
            apply List.ext_getElem?
            intro q
            simp only [Sort.putCells, Array.getElem?_toList, Array.getElem?_mapIdx, List.size_toArray, Nat.zero_le, true_and, Nat.zero_add, Nat.sub_zero]
            by_cases hq : q < (isort ss).length
            · rw [List.getElem?_append_left (by simpa using hq)]
              rw [Array.getElem?_eq_getElem (by omega)]
              simp only [Option.map_some, if_pos hq, hone q hq, List.getElem?_map, List.getElem?_eq_getElem hq]
            · rw [List.getElem?_append_right (by simpa using hq)]
              simp only [List.length_map, List.getElem?_drop, Array.getElem?_toList]
              rw [show (isort ss).length + (q - (isort ss).length) = q by omega]
              cases us[q]? with
              | none => rfl
              | some x => simp [hq])
          rfl rfl rfl (by simp [Sort.grow, Sort.putRow, Sort.mapBlock, Sort.ahead])
          (by
            have hlt2 : G.μ k < (Sort.putRow Proofs.encStr (Sort.ahead w m) (G.μ k) 0 (isort ss).toArray).heap.size := by simp [Sort.putRow, Sort.mapBlock, Sort.ahead]; exact (Array.getElem?_eq_some_iff.1 hb).1
            rw [Sort.heap_grow_old _ _ hlt2]
            simp only [Sort.putRow, Sort.mapBlock, Sort.ahead, Array.getElem?_modify, if_true, hb, Option.map_some, Sort.onCells])
          (fun b hb1 hb2 => by
            have hlt2 : b < (Sort.putRow Proofs.encStr (Sort.ahead w m) (G.μ k) 0 (isort ss).toArray).heap.size := by simp [Sort.putRow, Sort.mapBlock, Sort.ahead]; exact hb1
            rw [Sort.heap_grow_old _ _ hlt2]
            simp only [Sort.putRow, Sort.mapBlock, Sort.ahead, Array.getElem?_modify, if_neg (Ne.symm hb2)])
         refine ⟨G, s1, ?_, _, rfl, .tuple _ _ rfl (fun i h1 => absurd h1 (by simp))⟩
         rw [List.length_map, hil, hsl] at s2
         exact s2
       · cases hg
     · cases hg
   · cases hg
 · simp only [Option.some.injEq, Prod.mk.injEq] at hg
   obtain ⟨rfl, rfl⟩ := hg
   obtain ⟨u, rfl, hr⟩ := args_1 hargs
   cases hr with
   | sl0 a c =>
     refine .inl ⟨w, hf _ _, (h0 a c w).mono fun e1 w' hh => ?_, rfl⟩
     obtain ⟨rfl, rfl⟩ := hh
     exact ⟨G, .refl _ _, hH, _, rfl, .tuple _ _ rfl (fun i h1 => absurd h1 (by simp))⟩
   | sl _ _ _ _ _ _ hl => exact absurd rfl hl
 · cases hg
end Go.Aa
set_option linter.unusedVariables false
set_option linter.unusedSimpArgs false
namespace Go.Aa
end Go.Aa
set_option linter.unusedVariables false
set_option linter.unusedSimpArgs false
namespace Go.Aa
open Go.RowKit
variable{P:Program}{G:Ghost}{w w':World}{H:Heap}
theorem args_one{az:AV}{vs:Array Value}(h:Args G w vs [az]):∃v,vs= #[v]∧Rep G w v az:=by
 obtain⟨hs,h2⟩:=h
 simp only[List.length_cons,List.length_nil]at hs
 refine⟨vs[0],?_,by simpa using h2 0 (by omega) (by simp)⟩
 apply Array.ext
 ·simpa using hs
 ·intro i i1 i2
  have:i=0:=by omega
  subst this;rfl
theorem int_inv{v:Value}{k:IntKind}{n:Int}(h:Rep G w v (.int k n)):v=.int k n:=by cases h;rfl
end Go.Aa
set_option linter.unusedVariables false
set_option linter.unusedSimpArgs false
namespace Go.Aa
open Go.RowKit Go.ChangeShapes Go.WideShapes Go.ChangeAt
section
variable{H:Type}{enc:TypeId×Value→H}{P:Program}{w:World}{base:Nat}{sp:Nat→Bool}{held:Bool}{G:Ghost}
theorem mapM_len{α β:Type}{f:α→Option β}:∀{l:List α}{r:List β},l.mapM f=some r→r.length=l.length
 |[],r,h=>by cases h;rfl
 |x::l,r,h=>by
  rw[List.mapM_cons]at h
  cases hx:f x with
  |none=>rw[hx]at h;cases h
  |some y=>
   cases hl:l.mapM f with
   |none=>rw[hx,hl]at h;cases h
   |some ys=>
    rw[hx,hl]at h
    cases h
    simp[mapM_len hl]
theorem slice_sz{t e:TypeId}{v:Value}{d:DataW H}{ps:List MemPlace}{l:List AV}{k:SK}(hu:P.underlying t=some (.slice e))(hr:Rep G w v (.sl k l))(ht:DataW.Trod enc P w base sp held t v d ps)
 (hw:(d.weights P t).all (·≤reachBytes)=true):l.length*P.bytesOf e≤reachBytes:=by
 cases hr with
 |sl0=>simp
 |sl a c _ _ es us hl hc hcm hs hes he0 hd hlim hcell hrep hfull hown=>
  obtain⟨fuel,h⟩:=ht
  cases fuel with
  |zero=>cases h
  |succ fuel=>
   simp only[DataW.trod,hu,Value.cells]at h
   split at h
   ·cases he:(List.range l.length).mapM (fun i=>(w.cells? base (a.add (i*P.cellsOf e)) (P.cellsOf e)).bind (DataW.trod enc P w base sp held fuel e))with
    |none=>rw[he]at h;cases h
    |some elems=>
     rw[he,Option.bind_some,Option.map_eq_some_iff]at h
     obtain⟨rest,-,h⟩:=h
     cases h
     have e1:elems.length=l.length:=by rw[mapM_len he,List.length_range]
     simp only[DataW.weights,hu,List.all_cons,Bool.and_eq_true,decide_eq_true_eq,List.length_map]at hw
     have:=hw.1
     rw[e1]at this
     exact Nat.le_trans (Nat.mul_le_mul_right _ (Nat.le_add_right _ _)) this
   ·cases h
theorem str_sz{t:TypeId}{v:Value}{d:DataW H}{ps:List MemPlace}{s:List UInt8}(hu:P.underlying t=some .string)(hr:Rep G w v (.str s))(ht:DataW.Trod enc P w base sp held t v d ps)
 (hw:(d.weights P t).all (·≤reachBytes)=true):s.length≤reachBytes:=by
 cases hr with
 |str s=>
  obtain⟨fuel,h⟩:=ht
  cases fuel with
  |zero=>cases h
  |succ fuel=>
   simp only[DataW.trod,hu,Value.cells]at h
   split at h
   ·cases h
    simpa[DataW.weights]using hw
   ·cases h
def Sz1(P:Program)(t:TypeId)(x:AV):Prop:=(∀e k l,P.underlying t=some (.slice e)→x=.sl k l→l.length*P.bytesOf e≤reachBytes)∧(∀s,P.underlying t=some .string→x=.str s→s.length≤reachBytes)
def SzAll(P:Program):List TypeId→List AV→Prop
 |t::ts,x::xs=>Sz1 P t x∧SzAll P ts xs
 |_,_=>True
theorem all_sz:∀{ts us:List TypeId}{vs:List Value}{ds gs:List (DataW H)}{ps:List MemPlace}{xs:List AV},DataW.TrodAll enc P w base sp held ts vs ds ps→(DataW.weightsEach P (ts++us) (ds++gs)).all (·≤reachBytes)=true→
 (∀(i:Nat)v y,vs[i]?=some v→xs[i]?=some y→Rep G w v y)→SzAll P ts xs
 |[],_,_,_,_,_,_,_,_,_=>by unfold SzAll;trivial
 |t::ts,us,[],ds,gs,ps,xs,h,_,_=>h.elim
 |t::ts,us,v::vs,[],gs,ps,xs,h,_,_=>h.elim
 |t::ts,us,v::vs,d::ds,gs,ps,[],_,_,_=>by unfold SzAll;trivial
 |t::ts,us,v::vs,d::ds,gs,ps,x::xs,⟨p,q,h1,h2,_⟩,hw,hr=>by
  simp only[List.cons_append,DataW.weightsEach,List.all_append,Bool.and_eq_true]at hw
  refine⟨⟨fun e k l hu hx=> ?_,fun s hu hx=> ?_⟩,all_sz h2 hw.2 (fun i v y a b=>hr (i+1) v y a b)⟩
  ·subst hx;exact slice_sz hu (hr 0 _ _ rfl rfl) h1 hw.1
  ·subst hx;exact str_sz hu (hr 0 _ _ rfl rfl) h1 hw.1
theorem weights_left:∀{ts us:List TypeId}{ds gs:List (DataW H)},(DataW.weightsEach P (ts++us) (ds++gs)).all (·≤reachBytes)=true→(DataW.weightsEach P ts ds).all (·≤reachBytes)=true
 |[],_,_,_,_=>by simp[DataW.weightsEach]
 |_::_,_,[],_,_=>by simp[DataW.weightsEach]
 |t::ts,us,d::ds,gs,h=>by
  simp only[List.cons_append,DataW.weightsEach,List.all_append,Bool.and_eq_true]at h⊢
  exact⟨h.1,weights_left h.2⟩
theorem law_rowZ{cfg:Cfg}(hcfg:CfgOk P cfg){f:FuncId}(hF:(cfg.F f).isSome=true)(hx:cfg.ext f=none)(ht:cfg.tryF f=false){fn:Func}{s:ChangeSpec}{k:Nat}{tb:TypeId}{apart fresh handsOn again:Bool}
 (hpl:fn.params.toList.all (plainT P k)=true)(hrt:fn.resultTypes= #[tb])(hb:P.underlying tb=some .bool)(hsv:s.vars=[])
 (hfn:∀ds:List (DataW H),ds.length=fn.params.toList.length→s.fn H ds={results:=[.lit (.bool true)],args:=ds})
 (hlaw:∀xs,TyAll P k fn.params.toList xs→SzAll P fn.params.toList xs→∃H',lim cfg (.fn f) xs Heap.nil=some (.ret (.bool true),H'))
 {W:World}{base:Nat}{args:Array Value}{ds gs:List (DataW H)}{before:List MemPlace}
 (hval:∀(j:Nat)t v,fn.params[j]?=some t→args[j]?=some v→Value.okWide P W .any base t v)
 (hW:DataW.Whole enc P fn.params.toList s.vars apart W args.toList ds gs before)(hwt:(DataW.weightsEach P (fn.params.toList++s.plain.varTypes P) (ds++gs)).all (·≤reachBytes)=true)
 (hg:Glob0 P W:=by exact glob0_none (by kernel_rfl) W):
 Calls P f args W fun e W'=>∃v,e=.returned v∧s.post enc P fn apart fresh handsOn again W args v W':=by
 have hW':=hW
 obtain⟨p,q,hA,hV,rfl,hfz,hnd⟩:=hW
 rw[hsv]at hV
 obtain⟨rfl,rfl⟩:=trodVars_none hV
 rw[List.append_nil]at hW'
 obtain⟨xs,x1,x2,x3⟩:=all_rep (G:=GW W) GW_lim hpl (fun j t v a b=>hval j t v (by simpa using a) (by simpa using b)) hA (weights_left hwt)
 obtain⟨H',hl⟩:=hlaw xs x3 (all_sz hA hwt x2)
 obtain⟨n,hn⟩:=lim_iff.1 hl
 refine(calls_of hcfg hn hF hx ht (GW_heap W hg) ⟨by rw[x1];simp,fun i h1 h2=>x2 i _ _ (by simp[h1]) (List.getElem?_eq_getElem h2)⟩).mono fun e W'⟨u,G',he,hst,hr⟩=> ?_
 cases hr
 have hB:=step_below hst rfl rfl rfl
 obtain⟨l1,l2⟩:=all_len hA
 have hfn':=hfn ds l2
 refine⟨_,he,post_of_below (pa:=p) (pv:=[]) hW' ?_ ?_ ?_ (by simp) hB ?_⟩
 ·intro b sp hd
  rw[List.append_nil,hfn',hrt]
  exact trodAll_mk1 (shut_bool hb _)
 ·intro sp hsp
  rw[List.append_nil,hfn']
  exact all_shut hB hpl hsp hA
 ·intro sp hsp
  rw[List.append_nil,hfn',hsv]
  rfl
 ·exact ok_one hrt rfl (okWide_bool_mk hb _)
end
end Go.Aa
set_option linter.unusedVariables false
set_option linter.unusedSimpArgs false
namespace Go.Aa
end Go.Aa
set_option linter.unusedVariables false
set_option linter.unusedSimpArgs false
namespace Go.Aa
def bitsE(xs:List AV)(H:Heap):Option (AV×Heap):=match xs with
 |[.flt b]=>some (.int .u64 b,H)
 |_=>none
theorem ext_bits{P:Program}{f:FuncId}(h:∀(b:Nat)(w:World),(callFunc f #[.float .f64 b]).run P w=.ok (.value (.int .u64 b)) w):ExtOk P f bitsE:=by
 intro xs H v H' hg G w vs hH hargs
 unfold bitsE at hg
 split at hg
 ·rename_i b
  simp only[Option.some.injEq,Prod.mk.injEq]at hg
  obtain⟨rfl,rfl⟩:=hg
  obtain⟨u,rfl,hr⟩:=args_one hargs
  cases hr
  exact .inr ⟨_,w,h b w,G,.refl _ _,hH,_,rfl,.int _ _⟩
 ·cases hg
def frombitsE(xs:List AV)(H:Heap):Option (AV×Heap):=match xs with
 |[.int .u64 n]=>if 0≤n∧n<18446744073709551616 then some (fltOf n.toNat,H)else none
 |_=>none
theorem ext_frombits{P:Program}{f:FuncId}(h:∀(n:Int)(w:World),(callFunc f #[.int .u64 n]).run P w=.ok (.value (.float .f64 n.toNat)) w):ExtOk P f frombitsE:=by
 intro xs H v H' hg G w vs hH hargs
 unfold frombitsE at hg
 split at hg
 ·rename_i n
  split at hg
  ·simp only[Option.some.injEq,Prod.mk.injEq]at hg
   obtain⟨rfl,rfl⟩:=hg
   obtain⟨u,rfl,hr⟩:=args_one hargs
   cases int_inv hr
   exact .inr ⟨_,w,h n w,G,.refl _ _,hH,_,rfl,fltOf_rep _⟩
  ·cases hg
 ·cases hg
end Go.Aa
set_option linter.unusedVariables false
set_option maxRecDepth 100000
namespace Go.Aa.T
open Go.Aa
def extF:Nat→Option (List AV→Heap→Option (AV×Heap))
 |57=>some trimE
 |55=>some sortE
 |30=>some bitsE
 |34=>some frombitsE
 |_=>none
def isTry(f:Nat):Bool:=f==40
def cfg:Cfg:={F:=tabF,ext:=extF,tryF:=isTry,stopT:=86}
def okR:Option (ARes×Heap)→Bool
 |some (.ret (.bool b),_)=>b
 |_=>false
theorem known4:okR (callN cfg 3000 (.fn 4) [] Heap.nil)=true:=by kernel_rfl
theorem known_ret4:∃H',lim cfg (.fn 4) [] Heap.nil=some (.ret (.bool true),H'):=by
 have h:=known4
 unfold okR at h
 split at h
 ·rename_i b H' hc
  subst h
  exact⟨H',lim_of hc⟩
 ·cases h
theorem l3(xs:List AV)(H:Heap):lim cfg (.fn 3) xs H=runL cfg a3 [.c c3] (initEnv xs) H:=lim_fn rfl rfl rfl xs H
theorem l5(xs:List AV)(H:Heap):lim cfg (.fn 5) xs H=runL cfg a5 [.c c5] (initEnv xs) H:=lim_fn rfl rfl rfl xs H
theorem l6(xs:List AV)(H:Heap):lim cfg (.fn 6) xs H=runL cfg a6 [.c c6] (initEnv xs) H:=lim_fn rfl rfl rfl xs H
theorem l7(xs:List AV)(H:Heap):lim cfg (.fn 7) xs H=runL cfg a7 [.c c7] (initEnv xs) H:=lim_fn rfl rfl rfl xs H
theorem l8(xs:List AV)(H:Heap):lim cfg (.fn 8) xs H=runL cfg a8 [.c c8] (initEnv xs) H:=lim_fn rfl rfl rfl xs H
theorem l9(xs:List AV)(H:Heap):lim cfg (.fn 9) xs H=runL cfg a9 [.c c9] (initEnv xs) H:=lim_fn rfl rfl rfl xs H
theorem l10(xs:List AV)(H:Heap):lim cfg (.fn 10) xs H=runL cfg a10 [.c c10] (initEnv xs) H:=lim_fn rfl rfl rfl xs H
theorem l12(xs:List AV)(H:Heap):lim cfg (.fn 12) xs H=runL cfg a12 [.c c12] (initEnv xs) H:=lim_fn rfl rfl rfl xs H
theorem l13(xs:List AV)(H:Heap):lim cfg (.fn 13) xs H=runL cfg a13 [.c c13] (initEnv xs) H:=lim_fn rfl rfl rfl xs H
theorem l14(xs:List AV)(H:Heap):lim cfg (.fn 14) xs H=runL cfg a14 [.c c14] (initEnv xs) H:=lim_fn rfl rfl rfl xs H
theorem l15(xs:List AV)(H:Heap):lim cfg (.fn 15) xs H=runL cfg a15 [.c c15] (initEnv xs) H:=lim_fn rfl rfl rfl xs H
theorem l16(xs:List AV)(H:Heap):lim cfg (.fn 16) xs H=runL cfg a16 [.c c16] (initEnv xs) H:=lim_fn rfl rfl rfl xs H
theorem l17(xs:List AV)(H:Heap):lim cfg (.fn 17) xs H=runL cfg a17 [.c c17] (initEnv xs) H:=lim_fn rfl rfl rfl xs H
theorem l18(xs:List AV)(H:Heap):lim cfg (.fn 18) xs H=runL cfg a18 [.c c18] (initEnv xs) H:=lim_fn rfl rfl rfl xs H
theorem l19(xs:List AV)(H:Heap):lim cfg (.fn 19) xs H=runL cfg a19 [.c c19] (initEnv xs) H:=lim_fn rfl rfl rfl xs H
theorem l20(xs:List AV)(H:Heap):lim cfg (.fn 20) xs H=runL cfg a20 [.c c20] (initEnv xs) H:=lim_fn rfl rfl rfl xs H
theorem l21(xs:List AV)(H:Heap):lim cfg (.fn 21) xs H=runL cfg a21 [.c c21] (initEnv xs) H:=lim_fn rfl rfl rfl xs H
theorem l22(xs:List AV)(H:Heap):lim cfg (.fn 22) xs H=runL cfg a22 [.c c22] (initEnv xs) H:=lim_fn rfl rfl rfl xs H
theorem l23(xs:List AV)(H:Heap):lim cfg (.fn 23) xs H=runL cfg a23 [.c c23] (initEnv xs) H:=lim_fn rfl rfl rfl xs H
theorem l24(xs:List AV)(H:Heap):lim cfg (.fn 24) xs H=runL cfg a24 [.c c24] (initEnv xs) H:=lim_fn rfl rfl rfl xs H
theorem l25(xs:List AV)(H:Heap):lim cfg (.fn 25) xs H=runL cfg a25 [.c c25] (initEnv xs) H:=lim_fn rfl rfl rfl xs H
theorem l26(xs:List AV)(H:Heap):lim cfg (.fn 26) xs H=runL cfg a26 [.c c26] (initEnv xs) H:=lim_fn rfl rfl rfl xs H
theorem l27(xs:List AV)(H:Heap):lim cfg (.fn 27) xs H=runL cfg a27 [.c c27] (initEnv xs) H:=lim_fn rfl rfl rfl xs H
theorem l28(xs:List AV)(H:Heap):lim cfg (.fn 28) xs H=runL cfg a28 [.c c28] (initEnv xs) H:=lim_fn rfl rfl rfl xs H
theorem l31(xs:List AV)(H:Heap):lim cfg (.fn 31) xs H=runL cfg a31 [.c c31] (initEnv xs) H:=lim_fn rfl rfl rfl xs H
theorem l32(xs:List AV)(H:Heap):lim cfg (.fn 32) xs H=runL cfg a32 [.c c32] (initEnv xs) H:=lim_fn rfl rfl rfl xs H
theorem l33(xs:List AV)(H:Heap):lim cfg (.fn 33) xs H=runL cfg a33 [.c c33] (initEnv xs) H:=lim_fn rfl rfl rfl xs H
theorem l35(xs:List AV)(H:Heap):lim cfg (.fn 35) xs H=runL cfg a35 [.c c35] (initEnv xs) H:=lim_fn rfl rfl rfl xs H
theorem l36(xs:List AV)(H:Heap):lim cfg (.fn 36) xs H=runL cfg a36 [.c c36] (initEnv xs) H:=lim_fn rfl rfl rfl xs H
theorem l37(xs:List AV)(H:Heap):lim cfg (.fn 37) xs H=runL cfg a37 [.c c37] (initEnv xs) H:=lim_fn rfl rfl rfl xs H
theorem l38(xs:List AV)(H:Heap):lim cfg (.fn 38) xs H=runL cfg a38 [.c c38] (initEnv xs) H:=lim_fn rfl rfl rfl xs H
theorem l39(xs:List AV)(H:Heap):lim cfg (.fn 39) xs H=runL cfg a39 [.c c39] (initEnv xs) H:=lim_fn rfl rfl rfl xs H
theorem l41(xs:List AV)(H:Heap):lim cfg (.fn 41) xs H=runL cfg a41 [.c c41] (initEnv xs) H:=lim_fn rfl rfl rfl xs H
theorem l42(xs:List AV)(H:Heap):lim cfg (.fn 42) xs H=runL cfg a42 [.c c42] (initEnv xs) H:=lim_fn rfl rfl rfl xs H
theorem l43(xs:List AV)(H:Heap):lim cfg (.fn 43) xs H=runL cfg a43 [.c c43] (initEnv xs) H:=lim_fn rfl rfl rfl xs H
theorem l45(xs:List AV)(H:Heap):lim cfg (.fn 45) xs H=runL cfg a45 [.c c45] (initEnv xs) H:=lim_fn rfl rfl rfl xs H
theorem l46(xs:List AV)(H:Heap):lim cfg (.fn 46) xs H=runL cfg a46 [.c c46] (initEnv xs) H:=lim_fn rfl rfl rfl xs H
theorem l47(xs:List AV)(H:Heap):lim cfg (.fn 47) xs H=runL cfg a47 [.c c47] (initEnv xs) H:=lim_fn rfl rfl rfl xs H
theorem l48(xs:List AV)(H:Heap):lim cfg (.fn 48) xs H=runL cfg a48 [.c c48] (initEnv xs) H:=lim_fn rfl rfl rfl xs H
theorem l49(xs:List AV)(H:Heap):lim cfg (.fn 49) xs H=runL cfg a49 [.c c49] (initEnv xs) H:=lim_fn rfl rfl rfl xs H
theorem l50(xs:List AV)(H:Heap):lim cfg (.fn 50) xs H=runL cfg a50 [.c c50] (initEnv xs) H:=lim_fn rfl rfl rfl xs H
theorem l51(xs:List AV)(H:Heap):lim cfg (.fn 51) xs H=runL cfg a51 [.c c51] (initEnv xs) H:=lim_fn rfl rfl rfl xs H
theorem l52(xs:List AV)(H:Heap):lim cfg (.fn 52) xs H=runL cfg a52 [.c c52] (initEnv xs) H:=lim_fn rfl rfl rfl xs H
theorem l53(xs:List AV)(H:Heap):lim cfg (.fn 53) xs H=runL cfg a53 [.c c53] (initEnv xs) H:=lim_fn rfl rfl rfl xs H
theorem l54(xs:List AV)(H:Heap):lim cfg (.fn 54) xs H=runL cfg a54 [.c c54] (initEnv xs) H:=lim_fn rfl rfl rfl xs H
theorem l56(xs:List AV)(H:Heap):lim cfg (.fn 56) xs H=runL cfg a56 [.c c56] (initEnv xs) H:=lim_fn rfl rfl rfl xs H
end Go.Aa.T
set_option linter.unusedVariables false
set_option maxRecDepth 100000
namespace Go.Aa.T
open Go.Aa
def k13_0:List AIt:=[.lp b13_0,.blk 0,.c (.seq (.region [mV 33 7,mV 4 33] false) .ret)]
def k23_0:List AIt:=[.lp b23_0,.blk 0,.c (.seq (.region [oP 20 (.build [(.str []),(.sl .full []),(.sl .full []),(.sl .full []),(.bool false)] []),⟨none,.store 5 (.t 4) (.t 20),none,[]⟩,oP 5 (.mov (.c (.bool false)))] false) .ret)]
def k25_0:List AIt:=[.lp b25_0,.blk 0,.c (.seq (.region [oP 4 (.mov (.c (.int .i64 (-1))))] false) .ret)]
def k28_0:List AIt:=[.lp b28_0,.blk 0,.c (.seq (.region [mV 30 5,mV 4 30] false) .ret)]
def k36_0:List AIt:=[.lp b36_0,.blk 0,.c (.seq (.region [mV 28 5,mV 4 28] false) .ret)]
def k38_0:List AIt:=[.lp b38_0,.blk 0,.c (.seq (.region [oP 4 (.mov (.c (.int .i64 (-1))))] false) .ret)]
def k41_0:List AIt:=[.lp b41_0,.blk 0]
def k49_0:List AIt:=[.lp b49_0,.blk 0,.c (.seq (.seq (.region [oP 19 (.load false 1 (.t 0)),oP 20 (.call (.c (.func 51 [])) [(.t 19)]),oP 21 (.len false (.t 20)),oP 22 (.mov (.c (.int .i64 0)))] false) (.block 2 (.loop (.seq (.region [oP 23 (.bin .lss (.t 22) (.t 21))] false) (.seq (.cond (.t 23) .skip (.exit 2)) (.seq (.block 3 (.seq (.region [oP 24 (.idx 1 (.t 20) (.t 22)),oP 25 (.load false 1 (.t 24)),mV 6 25] false) (.seq (.region [oP 27 (.load false 1 (.t 1)),mV 28 6,oP 29 (.call (.t 27) [(.t 28)]),mV 26 29,oP 30 (.extract (.t 26) 0),oP 31 (.extract (.t 26) 1),mV 7 30,mV 8 31] false) (.seq (.region [mV 32 8,oP 33 (.call (.c (.func 45 [])) [(.t 32)])] false) (.seq (.region [mV 34 7,oP 35 (.bin .gtr (.t 34) (.c (.int .i64 0)))] false) (.cond (.t 35) (.region [oP 36 (.load false 1 (.t 2)),mV 37 6,mV 38 7,oP 39 (.build [(.str []),(.int .i64 0)] [(0,1,(.t 37)),(1,1,(.t 38))]),oP 40 (.bslice 2 [(.t 39)]),oP 41 (.append 2 24 (.t 36) (.t 40)),⟨none,.store 1 (.t 2) (.t 41),none,[]⟩] false) .skip)))))) (.region [oP 42 (.bin .add (.t 22) (.c (.int .i64 1))),mV 22 42] false))))))) (.seq (.region [oP 43 (.load false 1 (.t 2)),oP 44 (.len false (.t 43)),oP 45 (.bin .gtr (.t 44) (.c (.int .i64 8)))] false) (.cond (.t 45) (.region [oP 46 (.call (.c (.func 45 [])) [(.c (.int .i64 4))])] false) .skip)))]
def k49_1:List AIt:=[.lp b49_1,.blk 2,.c (.seq (.region [oP 43 (.load false 1 (.t 2)),oP 44 (.len false (.t 43)),oP 45 (.bin .gtr (.t 44) (.c (.int .i64 8)))] false) (.cond (.t 45) (.region [oP 46 (.call (.c (.func 45 [])) [(.c (.int .i64 4))])] false) .skip))]
def k50_0:List AIt:=[.lp b50_0,.blk 0,.c (.seq (.region [oP 2 (.mov (.c (.int .i64 0)))] false) .ret)]
def k51_0:List AIt:=[.lp b51_0,.blk 0,.c (.seq (.region [mV 27 3,oP 28 (.callM (.c (.func 55 [])) [(.t 27)])] false) (.seq (.region [mV 29 3,oP 30 (.callM (.c (.func 56 [])) [(.t 29)]),mV 2 30] false) .ret))]
def k51_1:List AIt:=[.lp b51_1,.blk 2,.blk 1,.c (.region [oP 26 (.bin .add (.t 10) (.c (.int .i64 1))),mV 10 26] false),.lp b51_0,.blk 0,.c (.seq (.region [mV 27 3,oP 28 (.callM (.c (.func 55 [])) [(.t 27)])] false) (.seq (.region [mV 29 3,oP 30 (.callM (.c (.func 56 [])) [(.t 29)]),mV 2 30] false) .ret))]
def k56_0:List AIt:=[.lp b56_0,.blk 0,.c (.seq (.region [mV 60 0,mV 2 60] false) .ret)]
def k56_1:List AIt:=[.lp b56_1,.blk 2,.c (.seq (.region [mV 54 0,mV 55 3,oP 56 (.slice 1 (.t 54) (some (.t 55)) none none),⟨none,.clearM [(.str [])] (.t 56),none,[]⟩] false) (.seq (.region [mV 57 0,mV 58 3,oP 59 (.slice 1 (.t 57) none (some (.t 58)) none),mV 2 59] false) .ret)),.blk 1,.c (.region [mV 14 3,oP 15 (.bin .add (.t 14) (.c (.int .i64 1))),mV 3 15] false),.lp b56_0,.blk 0,.c (.seq (.region [mV 60 0,mV 2 60] false) .ret)]
end Go.Aa.T
set_option linter.unusedVariables false
set_option linter.unusedSimpArgs false
namespace Go.Aa
def pw(k:Nat):Nat:=2^k
theorem pw_eq(k:Nat):pw k=2^k:=rfl
theorem pw_pos(k:Nat):0<pw k:=Nat.two_pow_pos k
abbrev F64:Ieee.Format:=FloatKind.f64.format
def cutE(n g:Nat):Nat:=n/g+(decide (g<2*(n%g))||(g==2*(n%g)&&n/g%2==1)).toNat
theorem cut_eq(neg:Bool)(n drop:Nat):Ieee.Toward.even.cut neg n drop=cutE n (2^(min drop (n.log2+2))):=by
 unfold Ieee.Toward.cut cutE
 simp only[Nat.shiftLeft_eq,Nat.one_mul]
theorem cutE_one(n:Nat):cutE n 1=n:=by
 unfold cutE
 simp[Nat.mod_one]
theorem cutE_ge{n g K:Nat}(hg:0<g)(h:K*g≤n):K≤cutE n g:=by
 unfold cutE
 have:=(Nat.le_div_iff_mul_le hg).2 h
 omega
theorem cutE_le{n g K:Nat}(hg:0<g)(h:n≤K*g):cutE n g≤K:=by
 unfold cutE
 have h1:n/g≤K:=by
  have:=Nat.div_le_div_right (c:=g) h
  rwa [Nat.mul_div_cancel _ hg]at this
 rcases Nat.lt_or_ge (n/g) K with h2|h2
 ·have:(decide (g<2*(n%g))||(g==2*(n%g)&&n/g%2==1)).toNat≤1:=Bool.toNat_le _
  omega
 ·have e:n/g=K:=by omega
  have h3:n%g=0:=by
   have:=Nat.div_add_mod n g
   rw[e,Nat.mul_comm]at this
   omega
  have e1:decide (g<2*(n%g))=false:=by rw[h3];simp
  have e2:(g==2*(n%g))=false:=by rw[h3];simp;omega
  rw[e1,e2,e]
  simp
theorem cutE_err{n g:Nat}(hg:0<g):2*(cutE n g*g)≤2*n+g∧2*n≤2*(cutE n g*g)+g:=by
 unfold cutE
 have h1:=Nat.div_add_mod n g
 have h2:=Nat.mod_lt n hg
 have hm:n/g*g=g*(n/g):=Nat.mul_comm _ _
 rcases Nat.lt_trichotomy g (2*(n%g))with h|h|h
 ·simp only[h,decide_true,Bool.true_or,Bool.toNat_true,Nat.add_mul,Nat.one_mul]
  omega
 ·have e1:decide (g<2*(n%g))=false:=by simp;omega
  rw[e1,Bool.false_or]
  generalize(g==2*(n%g)&&n/g%2==1)=b
  cases b
  ·simp only[Bool.toNat_false,Nat.add_zero];omega
  ·simp only[Bool.toNat_true,Nat.add_mul,Nat.one_mul];omega
 ·have e1:decide (g<2*(n%g))=false:=by simp;omega
  have e2:(g==2*(n%g))=false:=by simp;omega
  rw[e1,e2]
  simp only[Bool.false_and,Bool.or_self,Bool.toNat_false,Nat.add_zero]
  omega
def wrd(s:Bool)(r:Nat):Nat:=if s then 9223372036854775808+r else r
theorem wrd_rank{s:Bool}{r:Nat}(h:r<9223372036854775808):rank (wrd s r)=if s then-(r:Int)else r:=by
 unfold rank wrd
 cases s
 ·simp only[Bool.false_eq_true,if_false]
  rw[if_neg (by omega)]
  omega
 ·simp only[if_true]
  rw[if_pos (by omega)]
  omega
theorem wrd_nn{s:Bool}{r:Nat}(h:r≤9218868437227405312):NN (wrd s r)∧wrd s r<18446744073709551616:=by
 rw[NN_iff]
 unfold wrd
 split<;>omega
theorem wrd_sign{s:Bool}{r:Nat}(h:r<9223372036854775808):(wrd s r/9223372036854775808%2=1)↔s=true:=by
 unfold wrd
 cases s
 ·simp only[Bool.false_eq_true,if_false,iff_false];omega
 ·simp only[if_true,iff_true];omega
theorem wrd_mod{s:Bool}{r:Nat}(h:r<9223372036854775808):wrd s r%9223372036854775808=r:=by
 unfold wrd
 split<;>omega
def rung(m:Nat)(p:Int):Nat:=
 if m=0 then 0 else
 let last:=max (p+m.log2-52) (-1074)
 min ((last+1074).toNat*4503599627370496+cutE (m*2^(p-last).toNat) (2^(min (last-p).toNat ((m*2^(p-last).toNat).log2+2)))) 9218868437227405312
theorem nearest_rung(s:Bool)(m:Nat)(p:Int):F64.nearest s m p=wrd s (rung m p):=by
 have e1:F64.fractionBits=52:=rfl
 have e2:F64.binade=4503599627370496:=rfl
 have e3:F64.infRung=9218868437227405312:=rfl
 have e4:F64.leastPlace= -1074:=rfl
 unfold Ieee.Format.nearest rung
 by_cases h:m=0
 ·rw[if_pos h,if_pos h];rfl
 ·rw[if_neg h,if_neg h]
  simp only[e1,e2,e3,e4,cut_eq,Nat.shiftLeft_eq]
  rfl
theorem rung_le(m:Nat)(p:Int):rung m p≤9218868437227405312:=by
 unfold rung
 split
 ·omega
 ·exact Nat.min_le_right _ _
theorem log2_mul_pow{m:Nat}(h:m≠0)(k:Nat):(m*2^k).log2=m.log2+k:=by
 have h1:=Nat.log2_self_le h
 have h2:= @Nat.lt_log2_self m
 refine(Nat.log2_eq_iff (by have:=Nat.two_pow_pos k;exact Nat.mul_ne_zero h (by omega))).2 ⟨?_,?_⟩
 ·rw[Nat.pow_add];exact Nat.mul_le_mul_right _ h1
 ·rw[show m.log2+k+1=(m.log2+1)+k by omega,Nat.pow_add];exact Nat.mul_lt_mul_of_pos_right h2 (Nat.two_pow_pos k)
theorem min_l{a b:Nat}(h:a≤b):min a b=a:=Nat.min_eq_left h
theorem fits(L K:Nat)(h:L<2046)(hk:K≤9007199254740992):min (L*4503599627370496+K) 9218868437227405312=L*4503599627370496+K:=by
 have h2:L*4503599627370496+K≤9218868437227405312:=by omega
 exact min_l h2
theorem rung_normal{m:Nat}{p:Int}(h:m≠0){L:Nat}(hL:(L:Int)=p+m.log2-52+1074)(hL2:L<2046):
 ∃k,rung m p=L*4503599627370496+k∧4503599627370496≤k∧k≤9007199254740992∧
  (m.log2≤52→k=m*2^(52-m.log2))∧(52≤m.log2→k=cutE m (2^(m.log2-52))):=by
 have h1:=Nat.log2_self_le h
 have h2:= @Nat.lt_log2_self m
 unfold rung
 rw[if_neg h]
 have el:max (p+m.log2-52) (-1074)=p+m.log2-52:=by omega
 simp only[el]
 have eL:(p+m.log2-52+1074).toNat=L:=by omega
 rw[eL]
 rcases Nat.le_total m.log2 52 with hm|hm
 ·have e1:(p-(p+m.log2-52)).toNat=52-m.log2:=by omega
  have e2:(p+m.log2-52-p).toNat=0:=by omega
  simp only[e1,e2,Nat.zero_min,Nat.pow_zero,cutE_one]
  have a1:4503599627370496≤m*2^(52-m.log2):=by
   have:2^m.log2*2^(52-m.log2)=4503599627370496:=by rw[←Nat.pow_add,show m.log2+(52-m.log2)=52 by omega]
   have:=Nat.mul_le_mul_right (2^(52-m.log2)) h1
   omega
  have a2:m*2^(52-m.log2)<9007199254740992:=by
   have:2^(m.log2+1)*2^(52-m.log2)=9007199254740992:=by rw[←Nat.pow_add,show m.log2+1+(52-m.log2)=53 by omega]
   have:=Nat.mul_lt_mul_of_pos_right h2 (Nat.two_pow_pos (52-m.log2))
   omega
  refine⟨m*2^(52-m.log2),fits L _ hL2 (by omega),a1,Nat.le_of_lt a2,fun _=>rfl,fun hh=> ?_⟩
  have:m.log2=52:=by omega
  rw[this]
  simp[cutE_one]
 ·have e1:(p-(p+m.log2-52)).toNat=0:=by omega
  have e2:(p+m.log2-52-p).toNat=m.log2-52:=by omega
  simp only[e1,e2,Nat.pow_zero,Nat.mul_one,show min (m.log2-52) (m.log2+2)=m.log2-52 by omega]
  have hg:=Nat.two_pow_pos (m.log2-52)
  have a1:4503599627370496≤cutE m (2^(m.log2-52)):=cutE_ge hg (by
   have:2^m.log2=4503599627370496*2^(m.log2-52):=by
    rw[show(4503599627370496:Nat)=2^52 from rfl,←Nat.pow_add,show 52+(m.log2-52)=m.log2 by omega]
   omega)
  have a2:cutE m (2^(m.log2-52))≤9007199254740992:=cutE_le hg (by
   have:2^(m.log2+1)=9007199254740992*2^(m.log2-52):=by
    rw[show(9007199254740992:Nat)=2^53 from rfl,←Nat.pow_add,show 53+(m.log2-52)=m.log2+1 by omega]
   omega)
  refine⟨_,fits L _ hL2 a2,a1,a2,fun hh=> ?_,fun _=>rfl⟩
  have:m.log2=52:=by omega
  rw[this]
  simp[cutE_one]
theorem worth_normal{L k:Nat}(h1:4503599627370496≤k)(h2:k≤9007199254740992):worth (L*4503599627370496+k)=k*2^L:=by
 unfold worth
 rw[if_neg (by omega)]
 rcases Nat.lt_or_ge k 9007199254740992 with h|h
 ·rw[show(L*4503599627370496+k)/4503599627370496-1=L by omega,show 4503599627370496+(L*4503599627370496+k)%4503599627370496=k by omega]
 ·have:k=9007199254740992:=by omega
  subst this
  rw[show(L*4503599627370496+9007199254740992)/4503599627370496-1=L+1 by omega,show 4503599627370496+(L*4503599627370496+9007199254740992)%4503599627370496=4503599627370496 by omega,Nat.pow_succ]
  omega
theorem read_wrd{s:Bool}{r:Nat}(h:r<9218868437227405312):∃m k:Nat,F64.read (wrd s r)=.number s m (-1074+(k:Int))∧m*2^k=worth r:=by
 have h':r<9223372036854775808:=by omega
 rcases reads (wrd s r)with⟨m,k,e,hw,hlt⟩|⟨e,he⟩|⟨s',x,e,hgt⟩
 ·refine⟨m,k,?_,by rw[wrd_mod h']at hw;exact hw⟩
  rw[e]
  congr 1
  have:=wrd_sign (s:=s) h'
  cases s
  ·simp only[Bool.false_eq_true,iff_false]at this;simp[this]
  ·simp only[iff_true]at this;simp[this]
 ·rw[wrd_mod h']at he;omega
 ·rw[wrd_mod h']at hgt;omega
end Go.Aa
set_option linter.unusedVariables false
set_option linter.unusedSimpArgs false
namespace Go.Aa
theorem read_lt{b:Nat}{s:Bool}{m:Nat}{p:Int}(h:F64.read b=.number s m p):m<9007199254740992:=by
 have e1:F64.signWeight=9223372036854775808:=rfl
 have e2:F64.binade=4503599627370496:=rfl
 have e3:F64.infRung=9218868437227405312:=rfl
 unfold Ieee.Format.read at h
 simp only[e1,e2,e3]at h
 split at h
 ·injection h with h1 h2 h3;omega
 ·split at h
  ·injection h with h1 h2 h3;omega
  ·split at h<;>cases h
theorem fi_eq(n:Int):FloatKind.f64.nearest n=wrd (decide (n<0)) (rung n.natAbs 0):=nearest_rung _ _ _
theorem worth_short{m:Nat}(h:m≠0)(hl:m.log2≤52){k:Nat}(hk:52≤m.log2+k)(hk2:m.log2+k<2046+52):worth (rung m (-1074+(k:Int)))=m*2^k∧rung m (-1074+(k:Int))≠0:=by
 obtain⟨q,e1,e2,e3,e4,_⟩:=rung_normal (p:= -1074+(k:Int)) h (L:=m.log2+k-52) (by omega) (by omega)
 rw[e1,worth_normal e2 e3,e4 hl]
 refine⟨?_,by omega⟩
 rw[Nat.mul_assoc,←Nat.pow_add]
 congr 2;omega
theorem log2_mul_pw{m k:Nat}(h:m≠0):(m*pw k).log2=m.log2+k:=log2_mul_pow h k
theorem worth_at{m k:Nat}(h:m≠0)(hl:m.log2≤52)(hk:52≤m.log2+k)(hk2:m.log2+k<2046+52)(he:k=1074):worth (rung m 0)=m*pw k:=by
 have:=(worth_short h hl hk hk2).1
 rw[show-1074+(k:Int)=0 by omega]at this
 exact this
theorem worth_int{n:Nat}(h:n<9007199254740992):worth (rung n 0)=n*pw 1074:=by
 by_cases h0:n=0
 ·subst h0
  rw[Nat.zero_mul];rfl
 ·have hlog:=(Nat.log2_lt h0 (k:=53)).2 h
  exact worth_at h0 (by omega) (by omega) (by omega) (by omega)
theorem rung_log{n:Nat}(h:n≠0)(hl:n.log2<1000):rung n 0<9218868437227405312∧rung n 0≠0∧n.log2+1074≤(worth (rung n 0)).log2∧(worth (rung n 0)).log2≤n.log2+1075:=by
 obtain⟨q,e1,e2,e3,_⟩:=rung_normal (p:=0) h (L:=n.log2+1022) (by omega) (by omega)
 rw[e1]
 refine⟨by omega,by omega,?_⟩
 rw[worth_normal e2 e3,log2_mul_pow (by omega)]
 have h1:52≤q.log2:=(Nat.le_log2 (by omega)).2 (by omega)
 have h2:q.log2<54:=(Nat.log2_lt (by omega)).2 (by omega)
 omega
theorem ac1(K l n j t:Nat):K*l*(n*j)*t=K*n*(l*j*t):=by ac_rfl
theorem ac2(K n u v:Nat):K*n*(u*v)=K*u*n*v:=by ac_rfl
theorem ac3(m a b c:Nat):m*a*b*(c*2)=2*(m*c)*(a*b):=by ac_rfl
theorem worth_le{a b:Nat}(h:a≤b):worth a≤worth b:=by
 rcases Nat.lt_or_ge a b with h1|h1
 ·exact Nat.le_of_lt (worth_lt h1)
 ·rw[show a=b by omega];exact Nat.le_refl _
theorem worth_succ{L k:Nat}(h1:4503599627370496≤k)(h2:k≤9007199254740992):(k+1)*2^L≤worth (L*4503599627370496+(k+1)):=by
 rcases Nat.lt_or_ge k 9007199254740992 with h|h
 ·rw[worth_normal (by omega) (by omega)];exact Nat.le_refl _
 ·have:k=9007199254740992:=by omega
  subst this
  rw[show L*4503599627370496+(9007199254740992+1)=(L+1)*4503599627370496+4503599627370497 by omega,worth_normal (by omega) (by omega),Nat.pow_succ,Nat.mul_comm (2^L) 2,←Nat.mul_assoc]
  exact Nat.mul_le_mul_right _ (by omega)
theorem div_spec {s t : Bool} {r1 r2 : Nat} (h1 : r1 < 9218868437227405312) (h2 : r2 < 9218868437227405312) (n1 : worth r1 ≠ 0) (n2 : worth r2 ≠ 0)
    (hlo : (worth r2).log2 < (worth r1).log2 + 1000) (hhi : (worth r1).log2 < (worth r2).log2 + 1000) :
    ∃ R, F64.div (wrd s r1) (wrd t r2) = some (wrd (s ^^ t) R) ∧ 0 < R ∧ R < 9218868437227405312 ∧
      (∀ c, worth c * worth r2 ≤ worth r1 * pw 1074 → c ≤ R) ∧ (∀ c, worth r1 * pw 1074 ≤ worth c * worth r2 → R ≤ c) ∧
      worth R * worth r2 * 4503599627370496 ≤ worth r1 * pw 1074 * 4503599627370497 ∧ worth r1 * pw 1074 * 4503599627370495 ≤ worth R * worth r2 * 4503599627370496 := by
  obtain ⟨m, i, ea, wa⟩ := read_wrd (s := s) h1
  obtain ⟨n, j, eb, wb⟩ := read_wrd (s := t) h2
  have lm := read_lt ea
  have ln := read_lt eb
  have hm : m ≠ 0 := by rintro rfl; rw [Nat.zero_mul] at wa; exact n1 wa.symm
  have hn : n ≠ 0 := by rintro rfl; rw [Nat.zero_mul] at wb; exact n2 wb.symm
  rw [← wa, log2_mul_pow hm] at hlo hhi
  rw [← wb, log2_mul_pow hn] at hlo hhi
  have gm : m.log2 ≤ 52 := by have := (Nat.log2_lt hm (k := 53)).2 lm; omega
  have gn : n.log2 ≤ 52 := by have := (Nat.log2_lt hn (k := 53)).2 ln; omega
  have a1 := Nat.log2_self_le hm
  have a2 := @Nat.lt_log2_self m
  have b1 := Nat.log2_self_le hn
  have b2 := @Nat.lt_log2_self n
  have hd : F64.div (wrd s r1) (wrd t r2) = some (wrd (s ^^ t) (rung (2 * (m * 2 ^ (54 + n.log2 - m.log2) / n) + (m * 2 ^ (54 + n.log2 - m.log2) % n != 0).toNat) ((-1074 + (i : Int)) - (-1074 + (j : Int)) - ((54 + n.log2 - m.log2 : Nat) : Int) - 1))) := by
    unfold Ieee.Format.div
    rw [ea, eb]
    simp only [Ieee.Datum.quotient, if_neg hn, Option.map_some, Ieee.Format.write, Nat.shiftLeft_eq, nearest_rung]
    rfl
  generalize hmore : 54 + n.log2 - m.log2 = more at hd
  have hD1 : 2 ^ (54 + n.log2) ≤ m * 2 ^ more := by
    have := Nat.mul_le_mul_right (2 ^ more) a1
    rwa [← Nat.pow_add, show m.log2 + more = 54 + n.log2 by omega] at this
  have hD2 : m * 2 ^ more < 2 ^ (55 + n.log2) := by
    have := Nat.mul_lt_mul_of_pos_right a2 (Nat.two_pow_pos more)
    rwa [← Nat.pow_add, show m.log2 + 1 + more = 55 + n.log2 by omega] at this
  generalize hDD : m * 2 ^ more = D at hd hD1 hD2
  have hq1 : 9007199254740992 ≤ D / n := by
    refine (Nat.le_div_iff_mul_le (by omega)).2 ?_
    have : 9007199254740992 * n ≤ 9007199254740992 * 2 ^ (n.log2 + 1) := Nat.mul_le_mul_left _ (Nat.le_of_lt b2)
    have e : 9007199254740992 * 2 ^ (n.log2 + 1) = 2 ^ (54 + n.log2) := by
      rw [show (9007199254740992 : Nat) = 2 ^ 53 from rfl, ← Nat.pow_add]; congr 1; omega
    omega
  have hq2 : D / n < 36028797018963968 := by
    refine (Nat.div_lt_iff_lt_mul (by omega)).2 ?_
    have : 36028797018963968 * 2 ^ n.log2 ≤ 36028797018963968 * n := Nat.mul_le_mul_left _ b1
    have e : 36028797018963968 * 2 ^ n.log2 = 2 ^ (55 + n.log2) := by
      rw [show (36028797018963968 : Nat) = 2 ^ 55 from rfl, ← Nat.pow_add]
    omega
  have hqr := Nat.div_add_mod D n
  have hrl := Nat.mod_lt D (show n > 0 by omega)
  generalize hq : D / n = q at hd hq1 hq2 hqr
  generalize hr : D % n = rest at hd hqr hrl
  obtain ⟨sb, hsb, hsb0, hsb1⟩ : ∃ sb, (rest != 0).toNat = sb ∧ (rest = 0 → sb = 0) ∧ (rest ≠ 0 → sb = 1) := ⟨_, rfl, fun h => by rw [h]; rfl, fun h => by simp [h]⟩
  rw [hsb] at hd
  have hsb2 : sb ≤ 1 := by rw [← hsb]; exact Bool.toNat_le _
  have hmag : 2 * q + sb ≠ 0 := by omega
  have l1 : 54 ≤ (2 * q + sb).log2 := (Nat.le_log2 hmag).2 (by omega)
  have l2 : (2 * q + sb).log2 < 56 := (Nat.log2_lt hmag).2 (by omega)
  generalize hplace : ((-1074 + (i : Int)) - (-1074 + (j : Int)) - ((more : Nat) : Int) - 1) = place at hd
  obtain ⟨L, hL⟩ : ∃ L : Nat, (L : Int) = place + (2 * q + sb).log2 - 52 + 1074 := ⟨(place + (2 * q + sb).log2 - 52 + 1074).toNat, by omega⟩
  obtain ⟨k, e1, e2, e3, _, e5⟩ := rung_normal hmag hL (by omega)
  have e5 := e5 (by omega)
  have s1 := Nat.log2_self_le hmag
  obtain ⟨d, hdd⟩ : ∃ d, (2 * q + sb).log2 - 52 = d + 1 := ⟨(2 * q + sb).log2 - 53, by omega⟩
  rw [hdd] at e5
  rw [show (2 * q + sb).log2 = 52 + (d + 1) by omega, Nat.pow_add] at s1
  have hg : 0 < 2 ^ (d + 1) := Nat.two_pow_pos _
  have gd : 2 ^ (d + 1) = 2 * 2 ^ d := by rw [Nat.pow_succ, Nat.mul_comm]
  have gd0 : 0 < 2 ^ d := Nat.two_pow_pos _
  -- the exact quotient against whole numbers of units
  have lower : ∀ K, K * 2 ^ (d + 1) * n ≤ 2 * D → K ≤ k := fun K hK => by
    rw [e5]
    refine cutE_ge hg ?_
    have h3 : K * 2 ^ d * n ≤ D := by
      have : K * 2 ^ (d + 1) * n = 2 * (K * 2 ^ d * n) := by rw [gd, Nat.mul_left_comm K 2, Nat.mul_assoc]
      omega
    have h4 : K * 2 ^ d ≤ q := by rw [← hq]; exact (Nat.le_div_iff_mul_le (by omega)).2 h3
    have : K * 2 ^ (d + 1) = 2 * (K * 2 ^ d) := by rw [gd, Nat.mul_left_comm]
    omega
  have upper : ∀ K, 2 * D ≤ K * 2 ^ (d + 1) * n → k ≤ K := fun K hK => by
    rw [e5]
    refine cutE_le hg ?_
    have h3 : D ≤ K * 2 ^ d * n := by
      have : K * 2 ^ (d + 1) * n = 2 * (K * 2 ^ d * n) := by rw [gd, Nat.mul_left_comm K 2, Nat.mul_assoc]
      omega
    have e : K * 2 ^ (d + 1) = 2 * (K * 2 ^ d) := by rw [gd, Nat.mul_left_comm]
    generalize K * 2 ^ d = M at h3 e
    rw [e]
    have h4 : q ≤ M := by
      have := Nat.div_le_div_right (c := n) h3
      rwa [hq, Nat.mul_div_cancel _ (by omega)] at this
    rcases Nat.lt_or_ge q M with h5 | h5
    · omega
    · have : q = M := by omega
      subst this
      have : rest = 0 := by
        have := Nat.mul_comm n q
        omega
      have := hsb0 this
      omega
  -- worths and units
  have x1 : ∀ K, K * 2 ^ L * worth r2 * 2 ^ (more + 1) = K * 2 ^ (d + 1) * n * 2 ^ (i + 1074) := fun K => by
    rw [← wb]
    have : L + j + (more + 1) = (d + 1) + (i + 1074) := by omega
    rw [ac1, ← Nat.pow_add, ← Nat.pow_add, this, Nat.pow_add 2 (d + 1), ac2]
  have x2 : worth r1 * pw 1074 * 2 ^ (more + 1) = 2 * D * 2 ^ (i + 1074) := by
    rw [← wa, ← hDD, Nat.pow_add 2 i, ← pw_eq 1074, show 2 ^ (more + 1) = 2 ^ more * 2 from Nat.pow_succ 2 more, ac3]
  have p1 := Nat.two_pow_pos (more + 1)
  have p2 := Nat.two_pow_pos (i + 1074)
  have unit : ∀ K, K * 2 ^ L * worth r2 ≤ worth r1 * pw 1074 ↔ K * 2 ^ (d + 1) * n ≤ 2 * D := fun K => by
    constructor
    · intro h
      have := Nat.mul_le_mul_right (2 ^ (more + 1)) h
      rw [x1, x2] at this
      exact Nat.le_of_mul_le_mul_right this p2
    · intro h
      have := Nat.mul_le_mul_right (2 ^ (i + 1074)) h
      rw [← x1, ← x2] at this
      exact Nat.le_of_mul_le_mul_right this p1
  have unit' : ∀ K, worth r1 * pw 1074 ≤ K * 2 ^ L * worth r2 ↔ 2 * D ≤ K * 2 ^ (d + 1) * n := fun K => by
    constructor
    · intro h
      have := Nat.mul_le_mul_right (2 ^ (more + 1)) h
      rw [x1, x2] at this
      exact Nat.le_of_mul_le_mul_right this p2
    · intro h
      have := Nat.mul_le_mul_right (2 ^ (i + 1074)) h
      rw [← x1, ← x2] at this
      exact Nat.le_of_mul_le_mul_right this p1
  -- the least that it is
  have f0 : 4503599627370496 * 2 ^ d ≤ q := by
    have e : (2 : Nat) ^ 52 * 2 ^ (d + 1) = 2 * (4503599627370496 * 2 ^ d) := by
      rw [gd, show (2 : Nat) ^ 52 = 4503599627370496 from rfl]; omega
    rw [e] at s1
    omega
  have f5 : 4503599627370496 * (2 * (2 ^ d * n)) ≤ 2 * D := by
    have := Nat.mul_le_mul_right n f0
    have e : 4503599627370496 * 2 ^ d * n = 4503599627370496 * (2 ^ d * n) := Nat.mul_assoc _ _ _
    have e2 := Nat.mul_comm n q
    omega
  refine ⟨_, hd, ?_, ?_, ?_, ?_, ?_⟩
  · rw [e1]; omega
  · rw [e1]; omega
  · intro c hc
    rcases Nat.lt_or_ge (rung (2 * q + sb) place) c with h | h
    · exfalso
      have h3 : worth (rung (2 * q + sb) place + 1) ≤ worth c := worth_le h
      rw [e1, Nat.add_assoc] at h3
      have h4 := worth_succ (L := L) e2 e3
      have h5 : (k + 1) * 2 ^ L * worth r2 ≤ worth r1 * pw 1074 := Nat.le_trans (Nat.mul_le_mul_right _ (Nat.le_trans h4 h3)) hc
      have := lower _ ((unit _).1 h5)
      omega
    · exact h
  · intro c hc
    rcases Nat.lt_or_ge c (rung (2 * q + sb) place) with h | h
    · exfalso
      have h3 : worth c ≤ worth (L * 4503599627370496 + k - 1) := worth_le (by omega)
      rcases Nat.lt_or_ge 4503599627370496 k with h4 | h4
      · rw [show L * 4503599627370496 + k - 1 = L * 4503599627370496 + (k - 1) by omega, worth_normal (by omega) (by omega)] at h3
        have h5 := Nat.le_trans hc (Nat.mul_le_mul_right (worth r2) h3)
        have := upper _ ((unit' _).1 h5)
        omega
      · have hk : k = 4503599627370496 := by omega
        subst hk
        have h5 : 4503599627370496 * 2 ^ L * worth r2 ≤ worth r1 * pw 1074 := (unit _).2 (by rw [gd, Nat.mul_assoc, Nat.mul_assoc]; exact f5)
        rw [← worth_normal (L := L) (Nat.le_refl _) (by omega)] at h5
        have h6 : worth c < worth (L * 4503599627370496 + 4503599627370496) := worth_lt (by omega)
        have h7 := Nat.mul_lt_mul_of_pos_right h6 (show 0 < worth r2 by omega)
        omega
    · exact h
  · rw [e1, worth_normal e2 e3]
    have er := cutE_err (n := 2 * q + sb) hg
    rw [← e5] at er
    have hN := Nat.mul_le_mul_right n (show 1 ≤ 2 ^ d from gd0)
    have g1 : k * 2 ^ (d + 1) * n ≤ (2 * q + sb) * n + 2 ^ d * n := by
      rw [← Nat.add_mul]; exact Nat.mul_le_mul_right n (by omega)
    have g2 : (2 * q + sb) * n ≤ k * 2 ^ (d + 1) * n + 2 ^ d * n := by
      rw [← Nat.add_mul]; exact Nat.mul_le_mul_right n (by omega)
    have g3 : (2 * q + sb) * n = 2 * (n * q) + sb * n := by rw [Nat.add_mul, Nat.mul_assoc, Nat.mul_comm q n]
    have g4 : sb * n ≤ n ∧ 2 * rest ≤ sb * n + n := by
      by_cases h0 : rest = 0
      · have := hsb0 h0; subst this; omega
      · have := hsb1 h0; subst this; omega
    constructor
    · have : k * 2 ^ (d + 1) * n * 4503599627370496 ≤ 2 * D * 4503599627370497 := by
        rw [g3] at g1
        omega
      have := Nat.mul_le_mul_right (2 ^ (i + 1074)) this
      rw [Nat.mul_right_comm (k * 2 ^ (d + 1) * n), Nat.mul_right_comm (2 * D), ← x1, ← x2] at this
      refine Nat.le_of_mul_le_mul_right ?_ p1
      rw [Nat.mul_right_comm (k * 2 ^ L * worth r2), Nat.mul_right_comm (worth r1 * pw 1074)]
      exact this
    · have : 2 * D * 4503599627370495 ≤ k * 2 ^ (d + 1) * n * 4503599627370496 := by
        rw [g3] at g2
        omega
      have := Nat.mul_le_mul_right (2 ^ (i + 1074)) this
      rw [Nat.mul_right_comm (k * 2 ^ (d + 1) * n), Nat.mul_right_comm (2 * D), ← x1, ← x2] at this
      refine Nat.le_of_mul_le_mul_right ?_ p1
      rw [Nat.mul_right_comm (k * 2 ^ L * worth r2), Nat.mul_right_comm (worth r1 * pw 1074)]
      exact this
theorem write_fl{d:Ieee.Datum}(h:d.isNaN=false):NN (F64.write d)∧F64.write d<18446744073709551616:=by
 cases d with
 |number s m p=>
  have e:F64.write (.number s m p)=wrd s (rung m p):=nearest_rung s m p
  rw[e];exact wrd_nn (rung_le m p)
 |infinity s=>exact wrd_nn (s:=s) (r:=9218868437227405312) (Nat.le_refl _)
 |nan s x=>cases h
theorem div_fl{x y z:Nat}(h:F64.div x y=some z):NN z∧z<18446744073709551616:=by
 unfold Ieee.Format.div at h
 cases hq:(F64.read x).quotient (F64.fractionBits+2) (F64.read y)with
 |none=>rw[hq]at h;cases h
 |some d=>
  rw[hq]at h
  simp only[Option.map_some,Option.some.injEq]at h
  subst h
  refine write_fl ?_
  revert hq
  cases F64.read x<;>cases F64.read y<;>simp only[Ieee.Datum.quotient]<;>intro hq
  all_goals first
   |(cases hq;done)
   |(injection hq with hq;subst hq;rfl)
   |(split at hq
     ·split at hq
      ·cases hq
      ·injection hq with hq;subst hq;rfl
     ·injection hq with hq;subst hq;rfl)
theorem div_int{a b:Int}(ha:a≠0)(hb:b≠0)(la:a.natAbs≤9223372036854775808)(lb:b.natAbs≤9223372036854775808):
 ∃R,F64.div (FloatKind.f64.nearest a) (FloatKind.f64.nearest b)=some (wrd (decide (a<0)^^decide (b<0)) R)∧0<R∧R<9218868437227405312:=by
 have na:a.natAbs≠0:=by omega
 have nb:b.natAbs≠0:=by omega
 have ga:a.natAbs.log2<64:=(Nat.log2_lt na).2 (by omega)
 have gb:b.natAbs.log2<64:=(Nat.log2_lt nb).2 (by omega)
 obtain⟨a1,a2,a3,a4⟩:=rung_log na (by omega)
 obtain⟨b1,b2,b3,b4⟩:=rung_log nb (by omega)
 have w0:∀r,r≠0→worth r≠0:=fun r hr=>by
  have:=worth_lt (show 0<r by omega)
  omega
 rw[fi_eq,fi_eq]
 obtain⟨R,h,h1,h2,_⟩:=div_spec (s:=decide (a<0)) (t:=decide (b<0)) a1 b1 (w0 _ a2) (w0 _ b2) (by omega) (by omega)
 exact⟨R,h,h1,h2⟩
theorem read_int{a:Int}(ha:a≠0)(la:a.natAbs≤9223372036854775808):∃(m:Nat)(p:Int),F64.read (FloatKind.f64.nearest a)=.number (decide (a<0)) m p∧m≠0:=by
 have na:a.natAbs≠0:=by omega
 have ga:a.natAbs.log2<64:=(Nat.log2_lt na).2 (by omega)
 obtain⟨a1,a2,_⟩:=rung_log na (by omega)
 rw[fi_eq]
 obtain⟨m,k,e,hw⟩:=read_wrd (s:=decide (a<0)) a1
 refine⟨m,_,e,?_⟩
 rintro rfl
 rw[Nat.zero_mul]at hw
 have:=worth_lt (show 0<rung a.natAbs 0 by omega)
 omega
theorem div_by0{a:Int}(ha:a≠0)(la:a.natAbs≤9223372036854775808):F64.div (FloatKind.f64.nearest a) 0=some (wrd (decide (a<0)) 9218868437227405312):=by
 obtain⟨m,p,e,hm⟩:=read_int ha la
 unfold Ieee.Format.div
 rw[e,show F64.read 0=.number false 0 (-1074)from rfl]
 simp only[Ieee.Datum.quotient,if_pos,if_neg hm,Option.map_some,Bool.xor_false]
 rfl
theorem div_of0{b:Int}(hb:b≠0)(lb:b.natAbs≤9223372036854775808):F64.div 0 (FloatKind.f64.nearest b)=some (wrd (decide (b<0)) 0):=by
 obtain⟨m,p,e,hm⟩:=read_int hb lb
 unfold Ieee.Format.div
 rw[e,show F64.read 0=.number false 0 (-1074)from rfl]
 simp only[Ieee.Datum.quotient,if_neg hm,Option.map_some,Bool.false_xor,Nat.shiftLeft_eq,Nat.zero_mul,Nat.zero_div,Nat.zero_mod,Ieee.Format.write,nearest_rung]
 simp[rung]
theorem div_00:F64.div 0 0=none:=rfl
theorem int_fits{n:Nat}(h:n<9007199254740992):rung n 0<9218868437227405312:=by
 by_cases h0:n=0
 ·subst h0;simp[rung]
 ·exact(rung_log h0 (by have:=(Nat.log2_lt h0 (k:=53)).2 h;omega)).1
theorem quo_int{a:Int}{w:Nat}(ha:a≠0)(hw:w≠0)(la:a.natAbs<9007199254740992)(lw:w<9007199254740992):
 ∃R,F64.div (FloatKind.f64.nearest a) (FloatKind.f64.nearest w)=some (wrd (decide (a<0)) R)∧0<R∧R<9218868437227405312∧
  (∀c,worth c*w≤a.natAbs*pw 1074→c≤R)∧(∀c,a.natAbs*pw 1074≤worth c*w→R≤c)∧
  worth R*w*4503599627370496≤a.natAbs*pw 1074*4503599627370497∧a.natAbs*pw 1074*4503599627370495≤worth R*w*4503599627370496:=by
 have na:a.natAbs≠0:=by omega
 have ga:a.natAbs.log2<53:=(Nat.log2_lt na).2 la
 have gw:w.log2<53:=(Nat.log2_lt hw).2 lw
 have w1:=worth_int la
 have w2:=worth_int lw
 have hE:0<pw 1074:=pw_pos 1074
 have l1:(worth (rung a.natAbs 0)).log2=a.natAbs.log2+1074:=by rw[w1,log2_mul_pw na]
 have l2:(worth (rung w 0)).log2=w.log2+1074:=by rw[w2,log2_mul_pw hw]
 rw[fi_eq,fi_eq,show decide ((w:Int)<0)=false by simp]
 obtain⟨R,h,h1,h2,h3,h4,h5,h6⟩:=div_spec (s:=decide (a<0)) (t:=false) (int_fits la) (int_fits lw) (by rw[w1];exact Nat.mul_ne_zero na (by omega)) (by rw[w2];exact Nat.mul_ne_zero hw (by omega)) (by omega) (by omega)
 rw[Int.natAbs_natCast]
 rw[w1,w2]at h3 h4 h5 h6
 generalize pw 1074=E at*
 refine⟨R,by rw[h,Bool.xor_false],h1,h2,fun c hc=>h3 c ?_,fun c hc=>h4 c ?_,?_,?_⟩
 ·rw[←Nat.mul_assoc];exact Nat.mul_le_mul_right E hc
 ·rw[←Nat.mul_assoc];exact Nat.mul_le_mul_right E hc
 ·refine Nat.le_of_mul_le_mul_right ?_ hE
  rw[Nat.mul_right_comm _ 4503599627370496,Nat.mul_right_comm _ 4503599627370497,Nat.mul_assoc (worth R)]
  exact h5
 ·refine Nat.le_of_mul_le_mul_right ?_ hE
  rw[Nat.mul_right_comm _ 4503599627370496,Nat.mul_right_comm _ 4503599627370495,Nat.mul_assoc (worth R)]
  exact h6
end Go.Aa
set_option linter.unusedVariables false
set_option linter.unusedSimpArgs false
set_option maxRecDepth 100000
namespace Go.Aa.T
open Go.Aa Go.Proofs
variable{H:Heap}{b c:Nat}
inductive Fl:AV→Prop
 |nan:Fl .nan
 |flt(b:Nat)(h:NN b)(hb:b<18446744073709551616):Fl (.flt b)
def top:Int:=9218868437227405312
def clsB(b:Nat):Int:=if rank b=top then 5 else if 0<rank b then 4 else if rank b= -top then 0 else if rank b<0 then 1 else if b/9223372036854775808%2=1 then 2 else 3
def cls:AV→Int
 |.flt b=>clsB b
 |_=>6
def sgn(x y:Int):Int:=if x<y then-1 else if y<x then 1 else 0
def rk:AV→Int
 |.flt b=>rank b
 |_=>0
def cmp(x y:AV):Int:=if cls x≠cls y then sgn (cls x) (cls y)else if cls x=1∨cls x=4 then sgn (rk x) (rk y)else 0
theorem rank_top(h:NN b): -top≤rank b∧rank b≤top:=by
 rw[NN_iff]at h
 unfold rank top
 split<;>omega
theorem r0:rank 0=0:=rfl
theorem rmax:rank 9218868437227405311=9218868437227405311:=rfl
theorem nn0:NN 0:=rfl
theorem nnmax:NN 9218868437227405311:=rfl
theorem Fl.data{x:AV}(h:Fl x):isData x=true:=by cases h<;>rfl
theorem Fl.shut{x:AV}(h:Fl x):shutA x=x:=by cases h<;>rfl
theorem sgn_self(x:Int):sgn x x=0:=by unfold sgn;simp
theorem cls_same(hb:NN b)(hc:NN c)(h:clsB b=clsB c)(h1:¬(clsB b=1∨clsB b=4)):rank b=rank c:=by
 have t1:=rank_top hb
 have t2:=rank_top hc
 unfold clsB at h h1
 unfold top at*
 (repeat' split at h)<;>(repeat' split at h1)<;>omega
theorem cls_lt6(b:Nat):clsB b<6:=by unfold clsB;(repeat' split)<;>omega
theorem sgn_abs(x y:Int): -1≤sgn x y∧sgn x y≤1:=by unfold sgn;(repeat' split)<;>omega
theorem cmp_abs(x y:AV): -1≤cmp x y∧cmp x y≤1:=by
 unfold cmp
 have h1:=sgn_abs (cls x) (cls y)
 have h2:=sgn_abs (rk x) (rk y)
 (repeat' split)<;>omega
theorem cmp_self(x:AV):cmp x x=0:=by unfold cmp;simp[sgn_self]
def isn:AV→Bool
 |.nan=>true
 |_=>false
theorem Fl.dat{x:AV}(h:Fl x):Dat x:=⟨by cases h<;>exact⟨rfl,rfl⟩⟩
def fltR(x:Option Nat):AV:=match x with
 |some z=>.flt z
 |none=>.nan
theorem fltR_fl{x:Option Nat}(h:∀z,x=some z→NN z∧z<18446744073709551616):Fl (fltR x):=by
 cases x with
 |none=>exact .nan
 |some z=>exact .flt z (h z rfl).1 (h z rfl).2
theorem divB(x y:Nat):binA .quo (.flt x) (.flt y)=some (fltR (F64.div x y)):=by
 simp only[binA,fltBin,fltAr,fltR]
 cases F64.div x y<;>rfl
def ofA(a b:Int):AV:=fltR (F64.div (FloatKind.f64.nearest a) (FloatKind.f64.nearest b))
theorem ofA_fl(a b:Int):Fl (ofA a b):=fltR_fl fun z h=>div_fl h
theorem cls_wrd{s:Bool}{r:Nat}(h:r≤9218868437227405312):cls (.flt (wrd s r))=if r=0 then(if s then 2 else 3)else if r=9218868437227405312 then(if s then 0 else 5)else if s then 1 else 4:=by
 simp only[cls,clsB]
 rw[wrd_rank (by omega)]
 have hs:=wrd_sign (s:=s) (r:=r) (by omega)
 unfold top
 cases s
 ·simp only[Bool.false_eq_true,if_false,iff_false]at hs⊢
  rw[if_neg hs]
  (repeat' split)<;>omega
 ·simp only[if_true,iff_true]at hs⊢
  rw[if_pos hs]
  (repeat' split)<;>omega
theorem ofA_cls {a b : Int} (la : a.natAbs ≤ 9223372036854775808) (lb : b.natAbs ≤ 9223372036854775808) : cls (ofA a b) =
 if b = 0 then (if a = 0 then 6 else if 0 < a then 5 else 0) else if a = 0 then (if b < 0 then 2 else 3) else if (decide (a < 0) ^^ decide (b < 0)) then 1 else 4 := by
 unfold ofA
 have z : FloatKind.f64.nearest 0 = 0 := rfl
 by_cases hb : b = 0
 · subst hb
   rw [z]
   by_cases ha : a = 0
   · subst ha
     rw [z, div_00]; rfl
   · rw [div_by0 ha la]
     simp only [fltR, cls_wrd (Nat.le_refl _)]
     by_cases h : a < 0
     · have : ¬ 0 < a := by omega
       simp [ha, h, this]
     · have : 0 < a := by omega
       simp [ha, h, this]
 · by_cases ha : a = 0
   · subst ha
     rw [z, div_of0 hb lb]
     simp only [fltR, cls_wrd (Nat.zero_le _)]
     simp [hb]
   · obtain ⟨R, h, h1, h2⟩ := div_int ha hb la lb
     rw [h]
     simp only [fltR, cls_wrd (Nat.le_of_lt h2)]
     have : R ≠ 0 := by omega
     have : R ≠ 9218868437227405312 := by omega
     simp [ha, hb, *]
def FlL(l:List AV):Prop:=∀x∈l,Fl x
theorem Fl.cell{x:AV}(h:Fl x):cellsN 1 x=true:=by cases h<;>rfl
theorem Fl.cells{x:AV}(h:Fl x):x.cells=[x]:=by cases h<;>rfl
theorem ofA_nat{a w:Nat}(ha:a≠0)(hw:w≠0)(la:a<9007199254740992)(lw:w<9007199254740992):
 ∃R,ofA a w=.flt (wrd false R)∧0<R∧R<9218868437227405312∧
  (∀c,worth c*w≤a*pw 1074→c≤R)∧(∀c,a*pw 1074≤worth c*w→R≤c)∧
  worth R*w*4503599627370496≤a*pw 1074*4503599627370497∧a*pw 1074*4503599627370495≤worth R*w*4503599627370496:=by
 obtain⟨R,h,h1,h2,h3,h4,h5,h6⟩:=quo_int (a:=(a:Int)) (w:=w) (by omega) hw (by simpa using la) lw
 simp only[Int.natAbs_natCast]at h3 h4 h5 h6
 refine⟨R,?_,h1,h2,h3,h4,h5,h6⟩
 unfold ofA
 rw[h,show decide ((a:Int)<0)=false by simp]
 rfl
theorem cmp_pos{r q:Nat}(h1:0<r)(h2:r<9218868437227405312)(h3:0<q)(h4:q<9218868437227405312):cmp (.flt (wrd false r)) (.flt (wrd false q))=sgn r q:=by
 unfold cmp
 rw[cls_wrd (by omega),cls_wrd (by omega)]
 have e1:¬r=0:=by omega
 have e2:¬q=0:=by omega
 have e3:¬r=9218868437227405312:=by omega
 have e4:¬q=9218868437227405312:=by omega
 simp only[e1,e2,e3,e4,if_false,Bool.false_eq_true,ne_eq,not_true,or_true,if_true,rk]
 rw[wrd_rank (by omega),wrd_rank (by omega)]
 rfl
theorem share_lt{a b w Ra Rb:Nat}(hab:a<b)(hb:b<8589934592)(hw:0<w)(h1:worth Ra*w*4503599627370496≤a*pw 1074*4503599627370497)(h2:b*pw 1074*4503599627370495≤worth Rb*w*4503599627370496):Ra<Rb:=by
 rcases Nat.lt_or_ge Ra Rb with h|h
 ·exact h
 ·exfalso
  have h3:=Nat.mul_le_mul_right w (worth_le h)
  have hE:0<pw 1074:=pw_pos 1074
  generalize pw 1074=E at*
  have h4:(a+1)*E≤b*E:=Nat.mul_le_mul_right E hab
  have h5:b*E≤8589934592*E:=Nat.mul_le_mul_right E (by omega)
  rw[Nat.add_mul,Nat.one_mul]at h4
  generalize worth Ra*w=X at*
  generalize worth Rb*w=Y at*
  generalize a*E=P at*
  generalize b*E=Q at*
  omega
theorem share_cmp{a b w:Nat}(hw:0<w)(lw:w<8589934592)(la:a<8589934592)(lb:b<8589934592):cmp (ofA a w) (ofA b w)=sgn a b:=by
 have wi:(w:Int)≠0:=by omega
 have ca:=ofA_cls (a:=(a:Int)) (b:=(w:Int)) (by simp;omega) (by simp;omega)
 have cb:=ofA_cls (a:=(b:Int)) (b:=(w:Int)) (by simp;omega) (by simp;omega)
 rw[if_neg wi]at ca cb
 have wn:¬(w:Int)<0:=by omega
 by_cases ha:a=0
 ·subst ha
  by_cases hb:b=0
  ·subst hb;rw[cmp_self,sgn_self]
  ·have h1:cls (ofA ((0:Nat):Int) w)=3:=by rw[ca];simp[wn]
   have h2:cls (ofA (b:Int) w)=4:=by
    have:¬(b:Int)<0:=by omega
    rw[cb];simp[hb,wn,this]
   unfold cmp
   rw[h1,h2]
   simp[sgn];omega
 ·by_cases hb:b=0
  ·subst hb
   have h1:cls (ofA ((0:Nat):Int) w)=3:=by rw[cb];simp[wn]
   have h2:cls (ofA (a:Int) w)=4:=by
    have:¬(a:Int)<0:=by omega
    rw[ca];simp[ha,wn,this]
   unfold cmp
   rw[h1,h2]
   simp[sgn];omega
  ·obtain⟨Ra,e1,p1,p2,p3,p4,p5,p6⟩:=ofA_nat ha (show w≠0 by omega) (by omega) (by omega)
   obtain⟨Rb,f1,q1,q2,q3,q4,q5,q6⟩:=ofA_nat hb (show w≠0 by omega) (by omega) (by omega)
   rw[e1,f1,cmp_pos p1 p2 q1 q2]
   unfold sgn
   rcases Nat.lt_trichotomy a b with h|h|h
   ·have:=share_lt h lb hw p5 q6
    rw[if_pos (by omega),if_pos (by omega)]
   ·subst h
    rw[e1]at f1
    have:Ra=Rb:=by
     have g1:=congrArg rk f1
     simp only[rk]at g1
     rw[wrd_rank (by omega),wrd_rank (by omega)]at g1
     have g2:(Ra:Int)=Rb:=by simpa using g1
     omega
    subst this
    simp
   ·have:=share_lt h la hw q5 p6
    rw[if_neg (by omega),if_pos (by omega),if_neg (by omega),if_pos (by omega)]
theorem Fl.data0{x:AV}(h:Fl x):dataOk [x]=true:=by cases h<;>rfl
theorem Fl.shut2{x:AV}(h:Fl x):[x].map shut2=[x]:=by cases h<;>rfl
end Go.Aa.T
set_option linter.unusedVariables false
set_option linter.unusedSimpArgs false
set_option maxRecDepth 100000
namespace Go.Proofs.YthlhlfiklmmenaaDoor
open Go.RowKit
open Go.Aa
theorem T.catch_idle(p:Addr)(w:World):
 CallsD Tryd.prog 44 #[.pointer (some p)] .returning w fun e u' w'=>e=.returned (.tuple #[])∧u'=.returning∧w'=w:=by
 refine callsD_of_wpS Tryd.func44 rfl fun c₀ cs hu=> ?_
 apply wpS_seq
 apply wpS_region
 simp[wpOpsS,go_sem,recoverD,hu,Tryd.ntmps44,Exit.thenS]
 refine wpS_of_wp ?_
 go_wp2
 cases c₀
 simp_all[bodyPostS,results,Tryd.results44]
theorem T.hta(v:Value)(w:World):(Instr.typeAssert (.iface 86 v) 20 86 true).run Tryd.prog w=.ok (.tuple #[v,.bool true]) w:=by kernel_rfl
set_option maxHeartbeats 4000000 in
theorem T.catch_stop(b:Nat)(x:Int)(n:Int)(older:List PanicEntry)(w:World)(hlt:b<w.heap.size)(hne:¬w.heap.size=b)(hne':¬b=w.heap.size)(hc:w.cell? ⟨b,0,none⟩=some (.int .i64 x))(hz:w.frozen? ⟨b,0,none⟩=false):
 CallsD Tryd.prog 44 #[.pointer (some ⟨b,0,none⟩)] (.panicking ({v:=.iface 86 (.agg #[.int .i64 n]),recovered:=false}::older)) w fun e u' w'=>
  e=.returned (.tuple #[])∧u'=.panicking ({v:=.iface 86 (.agg #[.int .i64 n]),recovered:=true}::older)∧w'=(w.setCell ⟨b,0,none⟩ (.int .i64 n)).alloc (.cells #[.int .i64 n] 86):=by
 have hta:=T.hta
 have hz0:∀w:World,(zeroValue 86).run Tryd.prog w=.ok (.agg #[.int .i64 0]) w:=fun _=>by kernel_rfl
 have hsz:Tryd.prog.cellsOf 86=1:=by kernel_rfl
 have hag:∀w:World,(isAgg 86).run Tryd.prog w=.ok true w:=fun _=>by kernel_rfl
 refine callsD_of_wpS Tryd.func44 rfl fun c₀ cs hu=> ?_
 apply wpS_seq
 apply wpS_region
 simp[wpOpsS,go_sem,recoverD,hu,Tryd.ntmps44,Exit.thenS]
 refine wpS_of_wp ?_
 go_wp2
 cases c₀
 simp_all[bodyPostS,results,Tryd.results44]
theorem T.try_ok{call:CallF}(hcs:CallSound Tryd.prog call){g:FuncId}{caps:List AV}{H H':Heap}{r:ARes}(hr:tryA (call (.fn g) caps H) 86=some (r,H')){G:Ghost}{w:World}{us:Array Value}(hH:HRep Tryd.prog G w H)(hargs:Args G w us caps):
 Calls Tryd.prog 40 #[.func (.func g) #[] us] w (PostOk Tryd.prog G w r H'):=by
 have hmf:∀(fn:Fn)(first cap:Array Value)(w:World),(Instr.makeFunc fn first cap).run Tryd.prog w=.ok (.func fn first cap) w:=fun _ _ _ _=>rfl
 obtain⟨st1,hH1⟩:=lay_step hH (.cells #[.int .i64 0] 72)
 have hlt:=tok_lt hH1
 have hfree:=free_new hH
 have hsz:(w.alloc (.cells #[.int .i64 0] 72)).heap.size=w.heap.size+1:=by simp
 have hb0:(w.alloc (.cells #[.int .i64 0] 72)).heap[w.heap.size]?=some (.cells #[.int .i64 0] 72 (0,0)):=World.alloc_heap_new w _
 have hcall:∃r1 H1,call (.fn g) caps H=some (r1,H1)∧((∃v,r1=.ret v∧r=.ret (.int .i64 0)∧H1=H')∨(∃n,r1=.pan (.iface 86 (.agg [.int .i64 n]))∧r=.ret (.int .i64 n)∧H1=H')):=by
  cases hcc:call (.fn g) caps H with
  |none=>rw[hcc]at hr;cases hr
  |some x=>
   obtain⟨r1,H1⟩:=x
   rw[hcc]at hr
   cases r1 with
   |ret v=>
    simp only[tryA,Option.some.injEq,Prod.mk.injEq]at hr
    exact⟨_,_,rfl,.inl ⟨v,rfl,hr.1.symm,hr.2⟩⟩
   |pan v=>
    unfold tryA at hr
    split at hr
    ·rename_i h;cases h
    ·rename_i h
     split at hr
     ·rename_i ht
      subst ht
      simp only[Option.some.injEq,Prod.mk.injEq]at hr
      simp only[Option.some.injEq,Prod.mk.injEq,ARes.pan.injEq]at h
      obtain⟨rfl,rfl⟩:=h
      exact⟨_,_,rfl,.inr ⟨_,rfl,hr.1.symm,hr.2⟩⟩
     ·cases hr
    ·cases hr
 obtain⟨r1,H1,hc,hend⟩:=hcall
 have hco:=hcs.fn g caps H r1 H1 hc G _ us hH1 (hargs.step st1)
 go_enter_defers Tryd.func40,Tryd.ntmps40
 go_wp2
 rcases hco with⟨_,hrun,hcalls,_⟩|⟨u,w',hrun,hpost⟩
 ·rw[hrun]
  simp only[Oper.upon]
  refine hcalls.mono ?_
  rintro e w2⟨G2,st2,hH2,hend2⟩
  obtain⟨hfree2,hb2⟩:=free_step hfree (by rw[hsz];omega) st2 hlt
  rw[hb0]at hb2
  have hc2:w2.cell? ⟨w.heap.size,0,none⟩=some (.int .i64 0):=by simp[World.cell?,hb2]
  have hz2:w2.frozen? ⟨w.heap.size,0,none⟩=false:=by simp[World.frozen?,hb2]
  have pk:∀n:Int,Step G w G2 (w2.setCell ⟨w.heap.size,0,none⟩ (.int .i64 n))∧HRep Tryd.prog G2 (w2.setCell ⟨w.heap.size,0,none⟩ (.int .i64 n)) H1:=fun n=>
   poke hfree2 hH.base (Nat.le_refl _) (st1.trans st2) hH2 (fun k hk=>Below.heap_setCell _ _ _ k hk) (by simp) hH.glob rfl rfl rfl
  rcases hend with⟨v,rfl,rfl,rfl⟩|⟨n,rfl,rfl,rfl⟩
  ·obtain⟨u,rfl,hu⟩:=hend2
   simp only
   apply ‹∀(a:Act)(w:World),wpList _ _ _ _ a w→_›
   go_wp2
   refine leaves_cons (f:=44) (args:= #[.pointer (some ⟨w.heap.size,0,none⟩)]) (by simp) (by simp[go_sem]) ?_
   refine(T.catch_idle _ _).mono ?_
   rintro e u' w''⟨rfl,rfl,rfl⟩
   have hc3:(w2.setCell ⟨w.heap.size,0,none⟩ (.int .i64 0)).cell? ⟨w.heap.size,0,none⟩=some (.int .i64 0):=by first|exact World.cell?_setCell_same _ hc2|exact World.cell?_setCell_same _ _ hc2|exact World.cell?_setCell_same _ _ _ hc2
   simp[Leaves,settle,results,Tryd.results40,go_sem,hc3]
   exact⟨G2,(pk 0).1,(pk 0).2,_,rfl,.int _ _⟩
  ·obtain⟨u,rfl,hu⟩:=hend2
   have hu':u=.iface 86 (.agg #[.int .i64 n]):=by
    cases hu with
    |iface _ v _ hv=>
     cases hv with
     |agg us _ hn hv=>
      have h0:us.size=1:=hn
      have h1:=hv 0 (by omega) (by simp)
      have e:us= #[us[0]]:=Array.ext (by simpa using h0) (fun i i1 i2=>by
       have:i=0:=by omega
       subst this;rfl)
      rw[List.getElem_cons_zero]at h1
      generalize us[0]=y at h1 e
      cases h1
      rw[e]
   subst hu'
   have hb3:w.heap.size<w2.heap.size:=(Array.getElem?_eq_some_iff.1 hb2).1
   simp only[Exit.then]
   refine leaves_cons (f:=44) (args:= #[.pointer (some ⟨w.heap.size,0,none⟩)]) (by simp) (by simp[go_sem]) ?_
   refine(T.catch_stop w.heap.size 0 n [] w2 hb3 (by omega) (by omega) hc2 hz2).mono ?_
   rintro e u' w''⟨rfl,rfl,rfl⟩
   have hc3:((w2.setCell ⟨w.heap.size,0,none⟩ (.int .i64 n)).alloc (.cells #[.int .i64 n] 86)).cell? ⟨w.heap.size,0,none⟩=some (.int .i64 n):=by
    have e1:=Below.heap_alloc (w2.setCell ⟨w.heap.size,0,none⟩ (.int .i64 n)) (.cells #[.int .i64 n] 86) w.heap.size (by simpa using hb3)
    have c:(w2.setCell ⟨w.heap.size,0,none⟩ (.int .i64 n)).cell? ⟨w.heap.size,0,none⟩=some (.int .i64 n):=by first|exact World.cell?_setCell_same _ hc2|exact World.cell?_setCell_same _ _ hc2|exact World.cell?_setCell_same _ _ _ hc2
    unfold World.cell? at c⊢
    rw[e1];exact c
   simp[Leaves,settle,results,Tryd.results40,go_sem,hc3]
   obtain⟨s3,h3⟩:=pk n
   obtain⟨s4,h4⟩:=lay_step h3 (.cells #[.int .i64 n] 86)
   exact⟨G2,s3.trans s4,h4,_,rfl,.int _ _⟩
 ·rw[hrun]
  simp only[Oper.upon]
  obtain⟨G2,st2,hH2,hend2⟩:=hpost
  obtain⟨hfree2,hb2⟩:=free_step hfree (by rw[hsz];omega) st2 hlt
  rw[hb0]at hb2
  have hc2:w'.cell? ⟨w.heap.size,0,none⟩=some (.int .i64 0):=by simp[World.cell?,hb2]
  have hz2:w'.frozen? ⟨w.heap.size,0,none⟩=false:=by simp[World.frozen?,hb2]
  have pk:∀n:Int,Step G w G2 (w'.setCell ⟨w.heap.size,0,none⟩ (.int .i64 n))∧HRep Tryd.prog G2 (w'.setCell ⟨w.heap.size,0,none⟩ (.int .i64 n)) H1:=fun n=>
   poke hfree2 hH.base (Nat.le_refl _) (st1.trans st2) hH2 (fun k hk=>Below.heap_setCell _ _ _ k hk) (by simp) hH.glob rfl rfl rfl
  rcases hend with⟨v,rfl,rfl,rfl⟩|⟨n,rfl,rfl,rfl⟩
  ·obtain⟨u',hu',hu⟩:=hend2
   apply ‹∀(a:Act)(w:World),wpList _ _ _ _ a w→_›
   go_wp2
   refine leaves_cons (f:=44) (args:= #[.pointer (some ⟨w.heap.size,0,none⟩)]) (by simp) (by simp[go_sem]) ?_
   refine(T.catch_idle _ _).mono ?_
   rintro e u' w''⟨rfl,rfl,rfl⟩
   have hc3:(w'.setCell ⟨w.heap.size,0,none⟩ (.int .i64 0)).cell? ⟨w.heap.size,0,none⟩=some (.int .i64 0):=by first|exact World.cell?_setCell_same _ hc2|exact World.cell?_setCell_same _ _ hc2|exact World.cell?_setCell_same _ _ _ hc2
   simp[Leaves,settle,results,Tryd.results40,go_sem,hc3]
   exact⟨G2,(pk 0).1,(pk 0).2,_,rfl,.int _ _⟩
  ·obtain⟨u',hu',hu⟩:=hend2
   cases hu'
theorem T.tryOk:TryOk Tryd.prog 40 86:=by
 intro call hcs g caps H r H' hr G w vs hH hargs
 obtain⟨h1,h2⟩:=hargs
 have hs:vs.size=1:=h1
 have e:vs= #[vs[0]]:=Array.ext (by simpa using hs) (fun i i1 i2=>by
  have:i=0:=by omega
  subst this;rfl)
 have hv:=h2 0 (by omega) (by simp)
 rw[List.getElem_cons_zero]at hv
 generalize vs[0]=y at hv e
 subst e
 cases hv with
 |func _ us _ hn hu=>exact .inl ⟨w,by kernel_rfl,T.try_ok hcs hr hH ⟨hn,hu⟩,rfl⟩
#print axioms T.tryOk
end Go.Proofs.YthlhlfiklmmenaaDoor
set_option linter.unusedVariables false
set_option linter.unusedSimpArgs false
set_option maxRecDepth 100000
namespace Go.Aa.T
open Go.Aa Go.Proofs
theorem _root_.Go.Aa.dT(p:Prop)[Decidable p](h:p:=by omega):decide p=true:=decide_eq_true h
theorem _root_.Go.Aa.dF(p:Prop)[Decidable p](h:¬p:=by omega):decide p=false:=decide_eq_false h
theorem _root_.Go.Aa.lM{X:Type}(k:SK)(f:X→AV)(l:List X):lenA false (.sl k (l.map f))=some (.int .i64 (l.length:Int)):=len_map _
theorem _root_.Go.Aa.iR{X:Type}{l post:List X}{x:X}{i:Nat}(es:Nat)(f:X→AV)(hd:l.drop i=x::post)(hc:cellsN es (f x)=true:=by rfl):idxA es (.sl .sh (l.map f)) (.int .i64 (i:Int))=some (.ref (f x).cells):=idx_row hd hc
theorem _root_.Go.Aa.iI(i:Nat)(h:i<9223372036854775807:=by omega):binA .add (.int .i64 (i:Int)) (.int .i64 1)=some (.int .i64 ((i+1:Nat):Int)):=inc_i h
theorem _root_.Go.Aa.lB(b:Bool)(n:Nat)(H:Heap)(k o:Nat)(v:AV)(cs:List AV)(h:H.boxes[k]?=some cs:=by simp+zetaDelta)(e:loadA b n ⟨[cs],[],[]⟩ (.ptr 0 o)=some v:=by rfl):loadA b n H (.ptr k o)=some v:=load_box h e
theorem _root_.Go.Aa.gG{cfg:Cfg}{A:AFunc}{R:ARes×Heap→Prop}{T:Env}{k:List AIt}{H:Heap}(n:Nat)(vs:List (Nat×AV))(hT:Has T vs)(s:ScrQ cfg A R)(e:uns s (fun s=>acts n k s (updL T vs) H)=claims s:=by kernel_rfl):Goes cfg A k T H R:=goG n vs hT s e
def _root_.Go.Aa.ScrQ.callI{cfg:Cfg}{A:AFunc}{R:ARes×Heap→Prop}{ys:List AV}{g:FuncId}{v:AV}(h:Gives cfg g ys v)(s:ScrQ cfg A R)(hx:ys.map shut2=ys∧ys.all data2=true:=by exact⟨rfl,rfl⟩)(hv:shutA v=v∧isData v=true:=by exact⟨rfl,rfl⟩):ScrQ cfg A R:=.callG ys v h hx hv s
def _root_.Go.Aa.ScrQ.callK{cfg:Cfg}{A:AFunc}{R:ARes×Heap→Prop}(xs:List AV){ys:List AV}{g:FuncId}{v:AV}(w:AV)(h:Gives cfg g ys v)(s:ScrQ cfg A R)(hx:xs.map shut2=ys∧ys.all data2=true:=by exact⟨rfl,rfl⟩)(hv:shutA v=w∧isData w=true:=by exact⟨rfl,rfl⟩):ScrQ cfg A R:=.callG xs w h hx hv s
variable{H:Heap}{b c:Nat}
theorem o_lt(hb:NN b)(hc:NN c):(fltOrd (some b) (some c)==some .lt)=decide (rank b<rank c):=by
 rw[ord_rank hb hc,Option.some_beq_some,cmp_lt]
theorem o_gt(hb:NN b)(hc:NN c):(fltOrd (some b) (some c)==some .gt)=decide (rank c<rank b):=by
 rw[ord_rank hb hc,Option.some_beq_some,cmp_gt]
theorem o_eq(hb:NN b)(hc:NN c):(fltOrd (some b) (some c)==some .eq)=decide (rank b=rank c):=by
 rw[ord_rank hb hc,Option.some_beq_some,cmp_eq]
theorem o_ns(hb:NN b):(fltOrd (some b) (some b) !=some .eq)=false:=by
 rw[bne,o_eq hb hb];simp
theorem ret_b{x y:Bool}{H:Heap}(h:x=y):IsRet (.bool y) (.ret (.bool x),H):=by subst h;rfl
theorem isNaN_nan:Gives cfg 18 [.nan] (.bool true):=by
 refine Gives.run (l18 _ _) ?_
 exact gG 30 [] trivial (.fin ((.ret (.bool (fltOrd none none !=some Ordering.eq)),{boxes:=[],toks:=[],loops:=[]:Heap})) rfl)
theorem isNaN_flt(h:NN b):Gives cfg 18 [.flt b] (.bool false):=by
 refine Gives.run (l18 _ _) ?_
 have e:=o_ns h
 exact gG 30 [] trivial (.fin ((.ret (.bool (fltOrd (some b) (some b) !=some Ordering.eq)),{boxes:=[],toks:=[],loops:=[]:Heap})) (by exact ret_b e))
theorem isNaN_f(h:NN b):Gives cfg 27 [.flt b] (.bool false):=by
 refine Gives.run (l27 _ _) ?_
 have e:=o_ns h
 exact gG 30 [] trivial (.fin ((.ret (.bool (fltOrd (some b) (some b) !=some Ordering.eq)),{boxes:=[],toks:=[],loops:=[]:Heap})) (by exact ret_b e))
theorem isInf1(h:NN b):Gives cfg 21 [.flt b,.int .i64 1] (.bool (decide (rank b=top))):=by
 refine Gives.run (l21 _ _) ?_
 have e:=o_gt h nnmax
 have t:=rank_top h
 have e':decide (rank 9218868437227405311<rank b)=decide (rank b=top):=by
  rw[rmax];unfold top at*;exact decide_eq_decide.2 (by omega)
 rw[e']at e
 generalize decide (rank b=top)=d at e⊢
 exact gG 30 [] trivial (.ff<|.ff<|.fin ((.ret (.bool (fltOrd (some b) (some 9218868437227405311)==some Ordering.gt)),{boxes:=[],toks:=[],loops:=[]:Heap})) (by exact ret_b e))
theorem isInf2(h:NN b):Gives cfg 21 [.flt b,.int .i64 (-1)] (.bool (decide (rank b= -top))):=by
 refine Gives.run (l21 _ _) ?_
 have e:=o_gt (nn_neg h) nnmax
 have t:=rank_top h
 have e':decide (rank 9218868437227405311<rank (Op.negFloat .f64 b))=decide (rank b= -top):=by
  rw[rmax,rank_neg];unfold top at*;exact decide_eq_decide.2 (by omega)
 rw[e']at e
 generalize decide (rank b= -top)=d at e⊢
 exact gG 30 [] trivial (.ff<|.tt<|.fin ((.ret (.bool (fltOrd (some (Op.negFloat FloatKind.f64 b)) (some 9218868437227405311)==some Ordering.gt)),{boxes:=[],toks:=[],loops:=[]:Heap})) (by exact ret_b e))
theorem bits_any(b:Nat):Gives cfg 30 [.flt b] (.int .u64 b):=.of (H':=Heap.nil) (by rw[lim_ext rfl (g:=bitsE) rfl];rfl)
theorem sign_flt(hb:b<18446744073709551616):Gives cfg 22 [.flt b] (.bool (decide (b/9223372036854775808%2=1))):=by
 refine Gives.run (l22 _ _) ?_
 have h1:=bits_any b
 have h2:convA (.int .i64) (.int .u64 (b:Int))=some (.int .i64 (IntKind.i64.wrap (b:Int))):=rfl
 have h3:decide (IntKind.i64.wrap (b:Int)<0)=decide (b/9223372036854775808%2=1):=decide_eq_decide.2 (sign_rank hb)
 generalize IntKind.i64.wrap (b:Int)=z at h2 h3
 rw[←h3]
 exact gG 30 [] trivial (.callK ([AV.flt b]) (.int .u64 ↑b) h1<|.conv (show convA (CV.int IntKind.i64) (.int .u64 ↑b)=some (.int .i64 z)from h2)<|.fin ((.ret (.bool (decide (z<(0:Int)))),{boxes:=[],toks:=[],loops:=[]:Heap})) rfl)
theorem isNaN_int(x:Int):Gives cfg 26 [.int .i64 x] (.bool false):=by
 refine Gives.run (l26 _ _) ?_
 exact gG 30 [] trivial (.fin ((.ret (.bool (x !=x)),{boxes:=[],toks:=[],loops:=[]:Heap})) (by exact ret_b (by simp)))
theorem cmpInt(x y:Int):Gives cfg 17 [.int .i64 x,.int .i64 y] (.int .i64 (sgn x y)):=by
 refine Gives.run (l17 _ _) ?_
 have h1:=isNaN_int
 unfold sgn
 by_cases a:x<y
 ·rw[if_pos a]
  exact gG 60 [] trivial (.callK ([.int .i64 x]) (.bool false) (show Gives cfg 26 [.int .i64 x] (.bool false)from h1 _)<|.callK ([.int .i64 y]) (.bool false) (show Gives cfg 26 [.int .i64 y] (.bool false)from h1 _)<|.ff<|.ff<|.yes (dT (x<y) (by exact a))<|.fin ((.ret (.int .i64 (-1:Int)),{boxes:=[],toks:=[],loops:=[]:Heap})) rfl)
 ·rw[if_neg a]
  by_cases b:y<x
  ·rw[if_pos b]
   exact gG 60 [] trivial (.callK ([.int .i64 x]) (.bool false) (show Gives cfg 26 [.int .i64 x] (.bool false)from h1 _)<|.callK ([.int .i64 y]) (.bool false) (show Gives cfg 26 [.int .i64 y] (.bool false)from h1 _)<|.ff<|.ff<|.no (dF (x<y) (by exact a))<|.yes (dT (y<x) (by exact b))<|.fin ((.ret (.int .i64 1),{boxes:=[],toks:=[],loops:=[]:Heap})) rfl)
  ·rw[if_neg b]
   exact gG 60 [] trivial (.callK ([.int .i64 x]) (.bool false) (show Gives cfg 26 [.int .i64 x] (.bool false)from h1 _)<|.callK ([.int .i64 y]) (.bool false) (show Gives cfg 26 [.int .i64 y] (.bool false)from h1 _)<|.ff<|.ff<|.no (dF (x<y) (by exact a))<|.no (dF (y<x) (by exact b))<|.fin ((.ret (.int .i64 0),{boxes:=[],toks:=[],loops:=[]:Heap})) rfl)
theorem cmpFlt(hb:NN b)(hc:NN c):Gives cfg 19 [.flt b,.flt c] (.int .i64 (sgn (rank b) (rank c))):=by
 refine Gives.run (l19 _ _) ?_
 have h1:=isNaN_f hb
 have h2:=isNaN_f hc
 have e1:=o_lt hb hc
 have e2:=o_gt hb hc
 unfold sgn
 by_cases a:rank b<rank c
 ·rw[if_pos a]
  rw[decide_eq_true a]at e1
  exact gG 60 [] trivial (.callK ([AV.flt b]) (.bool false) h1<|.callK ([AV.flt c]) (.bool false) h2<|.ff<|.ff<|.yes (show(fltOrd (some b) (some c)==some Ordering.lt)=true from(by simp[e1]))<|.fin ((.ret (.int .i64 (-1:Int)),{boxes:=[],toks:=[],loops:=[]:Heap})) rfl)
 ·rw[if_neg a]
  rw[decide_eq_false a]at e1
  by_cases d:rank c<rank b
  ·rw[if_pos d]
   rw[decide_eq_true d]at e2
   exact gG 60 [] trivial (.callK ([AV.flt b]) (.bool false) h1<|.callK ([AV.flt c]) (.bool false) h2<|.ff<|.ff<|.no (show(fltOrd (some b) (some c)==some Ordering.lt)=false from Bool.eq_false_iff.2 (by simp[e1]))<|.yes (show(fltOrd (some b) (some c)==some Ordering.gt)=true from(by simp[e2]))<|.fin ((.ret (.int .i64 1),{boxes:=[],toks:=[],loops:=[]:Heap})) rfl)
  ·rw[if_neg d]
   rw[decide_eq_false d]at e2
   exact gG 60 [] trivial (.callK ([AV.flt b]) (.bool false) h1<|.callK ([AV.flt c]) (.bool false) h2<|.ff<|.ff<|.no (show(fltOrd (some b) (some c)==some Ordering.lt)=false from Bool.eq_false_iff.2 (by simp[e1]))<|.no (show(fltOrd (some b) (some c)==some Ordering.gt)=false from Bool.eq_false_iff.2 (by simp[e2]))<|.fin ((.ret (.int .i64 0),{boxes:=[],toks:=[],loops:=[]:Heap})) rfl)
theorem class_nan:Gives cfg 12 [.nan] (.int .i64 6):=by
 refine Gives.run (l12 _ _) ?_
 have h:=isNaN_nan
 exact gG 60 [] trivial (.callK ([AV.nan]) (.bool true) h<|.tt<|.fin ((.ret (.int .i64 6),{boxes:=[],toks:=[],loops:=[]:Heap})) rfl)
theorem class_flt(h:NN b)(hb:b<18446744073709551616):Gives cfg 12 [.flt b] (.int .i64 (clsB b)):=by
 refine Gives.run (l12 _ _) ?_
 have n:=isNaN_flt h
 have i1:=isInf1 h
 have i2:=isInf2 h
 have s:=sign_flt hb
 have g:=o_gt h nn0
 have l:=o_lt h nn0
 rw[r0]at g l
 unfold clsB
 by_cases h1:rank b=top
 ·rw[if_pos h1]
  rw[decide_eq_true h1]at i1
  exact gG 60 [] trivial (.callK ([AV.flt b]) (.bool false) n<|.ff<|.callK ([AV.flt b,.int .i64 1]) (.bool true) i1<|.tt<|.fin ((.ret (.int .i64 5),{boxes:=[],toks:=[],loops:=[]:Heap})) rfl)
 ·rw[if_neg h1]
  rw[decide_eq_false h1]at i1
  by_cases h2:0<rank b
  ·rw[if_pos h2]
   rw[decide_eq_true h2]at g
   exact gG 60 [] trivial (.callK ([AV.flt b]) (.bool false) n<|.ff<|.callK ([AV.flt b,.int .i64 1]) (.bool false) i1<|.ff<|.yes (show(fltOrd (some b) (some 0)==some Ordering.gt)=true from(by simp[g]))<|.fin ((.ret (.int .i64 4),{boxes:=[],toks:=[],loops:=[]:Heap})) rfl)
  ·rw[if_neg h2]
   rw[decide_eq_false h2]at g
   by_cases h3:rank b= -top
   ·rw[if_pos h3]
    rw[decide_eq_true h3]at i2
    exact gG 60 [] trivial (.callK ([AV.flt b]) (.bool false) n<|.ff<|.callK ([AV.flt b,.int .i64 1]) (.bool false) i1<|.ff<|.no (show(fltOrd (some b) (some 0)==some Ordering.gt)=false from Bool.eq_false_iff.2 (by simp[g]))<|.callK ([AV.flt b,.int .i64 (-1:Int)]) (.bool true) i2<|.tt<|.fin ((.ret (.int .i64 0),{boxes:=[],toks:=[],loops:=[]:Heap})) rfl)
   ·rw[if_neg h3]
    rw[decide_eq_false h3]at i2
    by_cases h4:rank b<0
    ·rw[if_pos h4]
     rw[decide_eq_true h4]at l
     exact gG 60 [] trivial (.callK ([AV.flt b]) (.bool false) n<|.ff<|.callK ([AV.flt b,.int .i64 1]) (.bool false) i1<|.ff<|.no (show(fltOrd (some b) (some 0)==some Ordering.gt)=false from Bool.eq_false_iff.2 (by simp[g]))<|.callK ([AV.flt b,.int .i64 (-1:Int)]) (.bool false) i2<|.ff<|.yes (show(fltOrd (some b) (some 0)==some Ordering.lt)=true from(by simp[l]))<|.fin ((.ret (.int .i64 1),{boxes:=[],toks:=[],loops:=[]:Heap})) rfl)
    ·rw[if_neg h4]
     rw[decide_eq_false h4]at l
     by_cases h5:b/9223372036854775808%2=1
     ·rw[if_pos h5]
      rw[decide_eq_true h5]at s
      exact gG 60 [] trivial (.callK ([AV.flt b]) (.bool false) n<|.ff<|.callK ([AV.flt b,.int .i64 1]) (.bool false) i1<|.ff<|.no (show(fltOrd (some b) (some 0)==some Ordering.gt)=false from Bool.eq_false_iff.2 (by simp[g]))<|.callK ([AV.flt b,.int .i64 (-1:Int)]) (.bool false) i2<|.ff<|.no (show(fltOrd (some b) (some 0)==some Ordering.lt)=false from Bool.eq_false_iff.2 (by simp[l]))<|.callK ([AV.flt b]) (.bool true) s<|.tt<|.fin ((.ret (.int .i64 2),{boxes:=[],toks:=[],loops:=[]:Heap})) rfl)
     ·rw[if_neg h5]
      rw[decide_eq_false h5]at s
      exact gG 60 [] trivial (.callK ([AV.flt b]) (.bool false) n<|.ff<|.callK ([AV.flt b,.int .i64 1]) (.bool false) i1<|.ff<|.no (show(fltOrd (some b) (some 0)==some Ordering.gt)=false from Bool.eq_false_iff.2 (by simp[g]))<|.callK ([AV.flt b,.int .i64 (-1:Int)]) (.bool false) i2<|.ff<|.no (show(fltOrd (some b) (some 0)==some Ordering.lt)=false from Bool.eq_false_iff.2 (by simp[l]))<|.callK ([AV.flt b]) (.bool false) s<|.ff<|.fin ((.ret (.int .i64 3),{boxes:=[],toks:=[],loops:=[]:Heap})) rfl)
theorem class_any{x:AV}(hx:Fl x):Gives cfg 12 [x] (.int .i64 (cls x)):=by
 cases hx with
 |nan=>exact class_nan
 |flt b h hb=>exact class_flt h hb
theorem isNaN_any{x:AV}(hx:Fl x):Gives cfg 18 [x] (.bool (isn x)):=by
 cases hx with
 |nan=>exact isNaN_nan
 |flt b h hb=>exact isNaN_flt h
theorem cmp_nan(y:AV)(hy:Fl y)(h:cls .nan=cls y):y=.nan:=by
 cases hy with
 |nan=>rfl
 |flt b _ _=>have:=cls_lt6 b;simp only[cls]at h;omega
theorem sgn_ne{x y:Int}(h:x≠y):sgn x y≠0:=by unfold sgn;(repeat' split)<;>omega
theorem compare_any{x y:AV}(hx:Fl x)(hy:Fl y):Gives cfg 9 [x,y] (.int .i64 (cmp x y)):=by
 refine Gives.run (l9 _ _) ?_
 haveI:=hx.dat
 haveI:=hy.dat
 have c1:=class_any hx
 have c2:=class_any hy
 have c3:=cmpInt (cls x) (cls y)
 have ny:=isNaN_any hx
 by_cases h:cls x=cls y
 ·have c0:cmp x y=if cls x=1∨cls x=4 then sgn (rk x) (rk y)else 0:=by unfold cmp;rw[if_neg (by simpa using h)]
  rw[h,sgn_self]at c3
  cases hx with
  |nan=>
   have:=cmp_nan y hy h
   subst this
   rw[c0,show cls .nan=6 from rfl,if_neg (by omega)]
   have ny:Gives cfg 18 [.nan] (.bool true):=isNaN_nan
   have c1:Gives cfg 12 [.nan] (.int .i64 6):=class_nan
   have c3:=cmpInt 6 6
   rw[sgn_self]at c3
   exact gG 60 [] trivial (.callK ([AV.nan]) (.int .i64 6) c1<|.callK ([AV.nan]) (.int .i64 6) c1<|.callK ([.int .i64 6,.int .i64 6]) (.int .i64 0) c3<|.ff<|.callK ([AV.nan]) (.bool true) ny<|.tt<|.fin ((.ret (.int .i64 0),{boxes:=[],toks:=[],loops:=[]:Heap})) rfl)
  |flt b hb hb'=>
   cases hy with
   |nan=>exfalso;have:=cls_lt6 b;simp only[cls]at h;omega
   |flt c hc hc'=>
    have h':clsB b=clsB c:=h
    have e:cmp (.flt b) (.flt c)=sgn (rank b) (rank c):=by
     rw[c0]
     show(if clsB b=1∨clsB b=4 then sgn (rank b) (rank c)else 0)=_
     split
     ·rfl
     ·rename_i hn;rw[cls_same hb hc h' hn,sgn_self]
    rw[e]
    have ny:=isNaN_flt hb
    have cf:=cmpFlt hb hc
    have c1:=class_flt hb hb'
    have c2:=class_flt hc hc'
    rw[←h']at c2
    have c3:=cmpInt (clsB b) (clsB b)
    rw[sgn_self]at c3
    generalize sgn (rank b) (rank c)=q at cf⊢
    exact let ζ1:List AV:=[.int .i64 (clsB b),.int .i64 (clsB b)];gG 60 [] trivial (.callK ([AV.flt b]) (.int .i64 (clsB b)) c1<|.callK ([AV.flt c]) (.int .i64 (clsB b)) c2<|.callK (ζ1) (.int .i64 0) c3<|.ff<|.callK ([AV.flt b]) (.bool false) ny<|.ff<|.callK ([AV.flt b,AV.flt c]) (.int .i64 q) cf<|.fin ((.ret (.int .i64 q),{boxes:=[],toks:=[],loops:=[]:Heap})) rfl)
 ·have c0:cmp x y=sgn (cls x) (cls y):=by unfold cmp;rw[if_pos h]
  rw[c0]
  have hs:=sgn_ne h
  generalize sgn (cls x) (cls y)=q at c3 hs⊢
  exact let ζ1:List AV:=[.int .i64 (cls x),.int .i64 (cls y)];gG 60 [] trivial (.callG ([x]) (.int .i64 (cls x)) c1 Shuts.p ⟨rfl,rfl⟩<|.callG ([y]) (.int .i64 (cls y)) c2 Shuts.p ⟨rfl,rfl⟩<|.callK (ζ1) (.int .i64 q) c3<|.yes (show(q !=(0:Int))=true from(by simpa using hs))<|.tt<|.fin ((.ret (.int .i64 q),{boxes:=[],toks:=[],loops:=[]:Heap})) rfl)
theorem of_any(a b:Int):Gives cfg 8 [.int .i64 a,.int .i64 b] (ofA a b):=by
 refine Gives.run (l8 _ _) ?_
 have q:binA .quo (.flt (FloatKind.f64.nearest a)) (.flt (FloatKind.f64.nearest b))=some (ofA a b):=divB _ _
 haveI:=(ofA_fl a b).dat
 generalize ofA a b=z at*
 exact gG 60 [] trivial (.conv (rfl:convA CV.flt (.int .i64 a)=some (AV.flt (FloatKind.f64.nearest a)))<|.conv (rfl:convA CV.flt (.int .i64 b)=some (AV.flt (FloatKind.f64.nearest b)))<|.bin q<|.fin ((.ret z,{boxes:=[],toks:=[],loops:=[]:Heap})) rfl)
theorem frombits_nan:Gives cfg 34 [.int .u64 9221120237041090561] .nan:=.of (H':=Heap.nil) (by rw[lim_ext rfl (g:=frombitsE) rfl];rfl)
theorem nan_any:Gives cfg 31 [] .nan:=by
 refine Gives.run (l31 _ _) ?_
 have h:=frombits_nan
 exact gG 60 [] trivial (.callK ([.int .u64 9221120237041090561]) (AV.nan) h<|.fin ((.ret AV.nan,{boxes:=[],toks:=[],loops:=[]:Heap})) rfl)
end Go.Aa.T
set_option linter.unusedVariables false
set_option linter.unusedSimpArgs false
set_option maxRecDepth 100000
namespace Go.Aa.T
open Go.Aa Go.Proofs
variable{H:Heap}
structure Taint where
 key:List UInt8
 val:List UInt8
 hard:Bool
structure Tol where
 key:List UInt8
 val:List UInt8
 any:Bool
def Taint.cells(t:Taint):List AV:=[.str t.key,.str t.val,.bool t.hard]
def Tol.cells(t:Tol):List AV:=[.str t.key,.str t.val,.bool t.any]
def encT(t:Taint):AV:=.agg t.cells
def encL(t:Tol):AV:=.agg t.cells
instance(t:Taint):Dat (encT t):=⟨rfl,rfl⟩
instance(t:Tol):Dat (encL t):=⟨rfl,rfl⟩
end Go.Aa.T
set_option linter.unusedVariables false
set_option linter.unusedSimpArgs false
set_option maxRecDepth 100000
namespace Go.Aa.T
open Go.Aa Go.Proofs
def few{α:Type}(f:α→List UInt8×List UInt8)(l:List α):Bool:=l.all fun x=>decide ((f x).1.length≤50)&&decide ((f x).2.length≤50)
def fewL(l:List Tol):Bool:=decide (l.length≤20)&&few (fun t=>(t.key,t.val)) l
def nameCh(c:UInt8):Bool:=(decide (97≤c.toNat)&&decide (c.toNat≤122))||(decide (48≤c.toNat)&&decide (c.toNat≤57))
def isName(s:List UInt8):Bool:=decide (1≤s.length)&&decide (s.length≤12)&&s.all nameCh
end Go.Aa.T
set_option linter.unusedVariables false
set_option linter.unusedSimpArgs false
set_option maxRecDepth 100000
namespace Go.Aa.T
open Go.Aa Go.Proofs
def same(x y:Taint):Bool:=decide (y.key=x.key)&&decide (y.val=x.val)
def okL(x:Tol):Bool:=(decide (x.key=[])||isName x.key)&&(if x.any then decide (x.val=[])else isName x.val)
def ckL(l:List Tol):Int:=if l.length≤8 then(if l.all okL then 0 else 3)else 4
end Go.Aa.T
set_option linter.unusedVariables false
set_option linter.unusedSimpArgs false
set_option maxRecDepth 100000
namespace Go.Aa.T
open Go.Aa Go.Proofs
def alnum:List UInt8:=[97,98,99,100,101,102,103,104,105,106,107,108,109,110,111,112,113,114,115,116,117,118,119,120,121,122,48,49,50,51,52,53,54,55,56,57]
theorem alnum_ch(c:UInt8):alnum.contains c=nameCh c:=by
 have:∀n:Fin 256,alnum.contains (UInt8.ofNat n.val)=nameCh (UInt8.ofNat n.val):=by decide+kernel
 have h:=this ⟨c.toNat,c.toNat_lt⟩
 simpa using h
theorem dropWhile_nil{p:UInt8→Bool}:∀{l:List UInt8},l.dropWhile p=[]↔l.all p=true
 |[]=>by simp
 |c::l=>by
  by_cases h:p c=true
  ·simp[List.dropWhile_cons,h,dropWhile_nil]
  ·simp[List.dropWhile_cons,h]
theorem trim_nil(s:List UInt8):Lib.trimS s alnum=[]↔s.all nameCh=true:=by
 have hp:(fun c=>alnum.contains c)=nameCh:=funext alnum_ch
 unfold Lib.trimS Lib.trimLeftS Lib.trimRightS
 rw[hp,dropWhile_nil,List.all_reverse]
 constructor
 ·intro h
  have e:=List.takeWhile_append_dropWhile (p:=nameCh) (l:=s.reverse)
  have:s.reverse.all nameCh=true:=by
   rw[←e,List.all_append,h,Bool.and_true]
   exact List.all_takeWhile
  rwa [List.all_reverse]at this
 ·intro h
  have:s.reverse.dropWhile nameCh=[]:=dropWhile_nil.2 (by rwa [List.all_reverse])
  rw[this];rfl
theorem trim_any(s:List UInt8)(h:s.length≤9223372036854775807):Gives cfg 57 [.str s,.str alnum] (.str (Lib.trimS s alnum)):=by
 refine Gives.of (H':=Heap.nil) ?_
 rw[lim_ext (g:=trimE) rfl rfl]
 have:trimE [.str s,.str alnum] Heap.nil=some (.str (Lib.trimS s alnum),Heap.nil):=if_pos ⟨h,by decide,by decide⟩
 rw[this];rfl
theorem res_name(s:List UInt8):Gives cfg 54 [.str s] (.bool (isName s)):=by
 refine Gives.run (l54 _ _) ?_
 have ht:=trim_nil s
 exact let ζ1:Heap:={boxes:=[],toks:=[],loops:=[]:Heap};gG 60 [] trivial (.len (show lenA true (.str s)=some (.int .i64 (↑s.length))from len_str _)<|.split ((1:Int)≤(↑s.length:Int)) (fun h1=>.yes (dT ((1:Int)≤(↑s.length:Int)) h1)<|.len (show lenA true (.str s)=some (.int .i64 (↑s.length))from len_str _)<|.split ((↑s.length:Int)≤(12:Int)) (fun h2=>.yes (dT ((↑s.length:Int)≤(12:Int)) h2)<|.callK ([.str s,.str [(97:UInt8),(98:UInt8),(99:UInt8),(100:UInt8),(101:UInt8),(102:UInt8),(103:UInt8),(104:UInt8),(105:UInt8),(106:UInt8),(107:UInt8),(108:UInt8),(109:UInt8),(110:UInt8),(111:UInt8),(112:UInt8),(113:UInt8),(114:UInt8),(115:UInt8),(116:UInt8),(117:UInt8),(118:UInt8),(119:UInt8),(120:UInt8),(121:UInt8),(122:UInt8),(48:UInt8),(49:UInt8),(50:UInt8),(51:UInt8),(52:UInt8),(53:UInt8),(54:UInt8),(55:UInt8),(56:UInt8),(57:UInt8)]]) (.str (Lib.trimS s alnum)) (show Gives cfg 57 [.str s,.str alnum] (.str (Lib.trimS s alnum))from trim_any _ (by omega))<|.fin ((.ret (.bool (Lib.trimS s alnum==[])),ζ1)) (by simp only[IsRet];grind[isName])) (fun h2=>.no (dF ((↑s.length:Int)≤(12:Int)) h2)<|.fin ((.ret (.bool false),ζ1)) (by simp only[IsRet];grind[isName]))) (fun h1=>.no (dF ((1:Int)≤(↑s.length:Int)) h1)<|.ff<|.fin ((.ret (.bool false),ζ1)) (by simp only[IsRet];grind[isName])))
end Go.Aa.T
set_option linter.unusedVariables false
set_option linter.unusedSimpArgs false
set_option maxRecDepth 100000
namespace Go.Aa.T
open Go.Aa Go.Proofs
structure Pair where
 key:List UInt8
 val:List UInt8
structure Term where
 op:Int
 key:List UInt8
 val:List UInt8
def Pair.cells(t:Pair):List AV:=[.str t.key,.str t.val]
def Term.cells(t:Term):List AV:=[.int .i64 t.op,.str t.key,.str t.val]
def encP(t:Pair):AV:=.agg t.cells
def encM(t:Term):AV:=.agg t.cells
def fewP(l:List Pair):Bool:=decide (l.length≤20)&&few (fun t=>(t.key,t.val)) l
def fewM(l:List Term):Bool:=decide (l.length≤20)&&few (fun t=>(t.key,t.val)) l
def ordB(s:List Pair)(i:Nat)(x:Pair):Bool:=match i with
 |0=>false
 |j+1=>match s[j]? with
  |some p=>Op.bytesLess x.key p.key||x.key==p.key
  |none=>false
def ckSl(s:List Pair):Nat→List Pair→Int
 |_,[]=>0
 |i,x::post=>if isName x.key&&isName x.val then(if ordB s i x then 13 else ckSl s (i+1) post)else 3
def ckS(s:List Pair):Int:=if s.length≤8 then ckSl s 0 s else 4
theorem dec_i{i:Nat}(h:i<9223372036854775807):binA .sub (.int .i64 ((i+1:Nat):Int)) (.int .i64 1)=some (.int .i64 (i:Int)):=by
 rw[subI (by omega) (by omega)];congr 2;omega
def valOk(x:Term):Bool:=if x.op≤2 then isName x.val else decide (x.val=[])
def ckMl:List Term→Int
 |[]=>0
 |x::post=>if 1≤x.op∧x.op≤4 then(if isName x.key&&valOk x then ckMl post else 3)else 1
def ckM(l:List Term):Int:=if l.length≤8 then ckMl l else 4
end Go.Aa.T
set_option linter.unusedVariables false
set_option linter.unusedSimpArgs false
set_option maxRecDepth 100000
namespace Go.Aa.T
open Go.Aa Go.Proofs
def fidxB{α:Type}(p:α→Bool):List α→Nat→Int
 |[],_=> -1
 |x::l,i=>if p x then i else fidxB p l (i+1)
theorem fidxB_ge{α:Type}(p:α→Bool):∀(l:List α)(i:Nat),decide (0≤fidxB p l i)=l.any p
 |[],i=>rfl
 |x::l,i=>by
  unfold fidxB
  by_cases h:p x=true
  ·simp[h]
  ·have:=fidxB_ge p l (i+1);simp[h,this]
end Go.Aa.T
set_option linter.unusedVariables false
set_option linter.unusedSimpArgs false
set_option maxRecDepth 100000
namespace Go.Aa.T
open Go.Aa Go.Proofs
theorem in0_data{nb nt:Nat}:∀{x:AV},data0 x=true→in0 nb nt x=true
 |.undef,h=>by cases h
 |.bool _,_=>rfl
 |.int ..,_=>rfl
 |.flt _,_=>rfl
 |.nan,_=>rfl
 |.str _,_=>rfl
 |.sl .sh _,_=>rfl
 |.sl .full _,_=>rfl
 |.sl .nil _,h=>by cases h
 |.sl (.own _) _,h=>by cases h
 |.agg _,h=>by cases h
 |.tuple _,h=>by cases h
 |.ptr ..,h=>by cases h
 |.ref _,_=>rfl
 |.nilptr,_=>rfl
 |.func ..,h=>by cases h
 |.nilFunc,_=>rfl
 |.iface ..,h=>by cases h
 |.nilIface,_=>rfl
 |.msl ..,h=>by cases h
 |.yield _,h=>by cases h
theorem in2_data0{nb nt:Nat}{x:AV}(h:data0 x=true):in2 nb nt x=true:=by
 have:=in0_data (nb:=nb) (nt:=nt) h
 cases x<;>first|exact this|cases h
theorem trunc_plain{bs ex:List (List AV)}{ts:List Nat}{b:Bool}(hb:bs.all (·.all data0)=true):trunc bs.length ts.length (.bool b) ⟨bs++ex,ts,[]⟩=⟨bs,ts,[]⟩:=by
 have hin:∀nb nt,bs.all (·.all (in2 nb nt))=true:=fun nb nt=>by
  rw[List.all_eq_true]at hb⊢
  intro l hl
  have:=hb l hl
  rw[List.all_eq_true]at this⊢
  exact fun x hx=>in2_data0 (this x hx)
 unfold trunc
 simp only[List.take_left',hin,List.all_nil,Bool.true_and,Bool.and_true]
 simp[within,in2,in1,in0]
section
variable{H:Heap}{k:Nat}{p:Taint→Bool}
end
end Go.Aa.T
set_option linter.unusedVariables false
set_option linter.unusedSimpArgs false
set_option maxRecDepth 100000
namespace Go.Aa.T
open Go.Aa Go.Proofs
end Go.Aa.T
set_option linter.unusedVariables false
set_option linter.unusedSimpArgs false
set_option maxRecDepth 100000
namespace Go.Aa.T
open Go.Aa Go.Proofs
structure Amount where
 name:List UInt8
 n:Int
def encA(x:Amount):AV:=.agg [.str x.name,.int .i64 x.n]
instance(x:Amount):Dat (encA x):=⟨rfl,rfl⟩
theorem lenA2{l:List Amount}:lenOk 2 (l.map encA)=true:=lenOk_map fun _=>rfl
def ordV(s:List Amount)(i:Nat)(x:Amount):Bool:=match i with
 |0=>false
 |j+1=>match s[j]? with
  |some p=>Op.bytesLess x.name p.name||x.name==p.name
  |none=>false
def ckVl(s:List Amount):Nat→List Amount→Int
 |_,[]=>0
 |i,x::post=>if isName x.name then(if x.n≤0 then 1 else if ordV s i x then 13 else ckVl s (i+1) post)else 3
def ckV(s:List Amount):Int:=if s.length≤8 then ckVl s 0 s else 4
theorem ckV_loop(l:List Amount)(hn:l.length≤8):∀(post:List Amount)(i:Nat)(bs:List (List AV))(hd:l.drop i=post)(T:Env)(hT:Has T [(0,.sl .sh (l.map encA)),(8,.sl .sh (l.map encA)),(9,.int .i64 l.length),(10,.int .i64 i)]),
 Goes cfg a50 k50_0 T ⟨bs,[],[]⟩ (IsRet (.int .i64 (ckVl l i post))):=by
 intro post
 induction post with
 |nil=>
  intro i bs hd T hT
  have hge:=drop_ge hd
  exact gG 60 _ hT (.no (dF ((↑i:Int)<(↑l.length:Int)))<|.fin ((.ret (.int .i64 0),{boxes:=bs,toks:=[],loops:=[]:Heap})) rfl)
 |cons x post ih=>
  intro i bs hd T hT
  have hlt:=drop_lt hd
  have hnx:=drop_next hd
  cases i with
  |zero=>exact let ζ1:Heap:={boxes:=bs++[[AV.str x.name,.int .i64 x.n]],toks:=[],loops:=[]:Heap};gG 60 _ hT (.yes (dT ((↑(0:Nat):Int)<(↑l.length:Int)))<|.idx (show idxA 2 (.sl .sh (l.map encA)) (.int .i64 (↑(0:Nat):Int))=some (.ref (encA x).cells)from idx_row hd (by rfl))<|.load (rfl:loadA true 2 {boxes:=bs,toks:=[],loops:=[]:Heap} (.ref [.str x.name,.int .i64 x.n])=some (.agg [.str x.name,.int .i64 x.n]))<|.store (show storeA 2 {boxes:=bs++[[AV.str [],.int .i64 0]],toks:=[],loops:=[]:Heap} (.ptr bs.length 0) (.agg [.str x.name,.int .i64 x.n])=some (ζ1)from store_box2 (cs:=[.str [],.int .i64 0]) (cs':=[.str x.name,.int .i64 x.n]) (by simp+zetaDelta) rfl (by simp+zetaDelta [List.set_append]))<|.load (lB false 1 ζ1 bs.length 0 (.str x.name) [.str x.name,.int .i64 x.n])<|.callK ([.str x.name]) (.bool (isName x.name)) (show Gives cfg 54 [.str x.name] (.bool (isName x.name))from res_name _)<|.split (isName x.name=true) (fun h1=>.no (show(!isName x.name)=false from by have hh:isName x.name=true:=h1;simp[hh])<|.load (lB false 1 ζ1 bs.length 1 (.int .i64 x.n) [.str x.name,.int .i64 x.n])<|.split (x.n≤(0:Int)) (fun h2=>.yes (dT (x.n≤(0:Int)) h2)<|.fin ((.ret (.int .i64 1),ζ1)) (by simp only[IsRet];grind[ckVl,ordV])) (fun h2=>.no (dF (x.n≤(0:Int)) h2)<|.ff<|.ff<|.bin (show binA .add (.int .i64 (↑(0:Nat):Int)) (.int .i64 1)=some (.int .i64 (↑(0+1):Int))from inc_i (by omega))<|.cutQ k50_0 [(0,.sl .sh (l.map encA)),(8,.sl .sh (l.map encA)),(9,.int .i64 (↑l.length)),(10,.int .i64 (↑(0+1):Int))] (ζ1) (fun T hT=>(ih (0+1) (bs++[[AV.str x.name,.int .i64 x.n]]) hnx T hT).to (by grind[ckVl,ordV])))) (fun h1=>.yes (show(!isName x.name)=true from by have hh:¬(isName x.name=true):=h1;simp[hh])<|.fin ((.ret (.int .i64 3),ζ1)) (by simp only[IsRet];grind[ckVl,ordV])))
  |succ j=>
   obtain⟨p,hp⟩:∃p,l[j]?=some p:=⟨l[j],List.getElem?_eq_getElem (by omega)⟩
   exact let ζ1:Heap:={boxes:=bs++[[AV.str x.name,.int .i64 x.n]],toks:=[],loops:=[]:Heap};gG 60 _ hT (.yes (dT ((↑(j+1):Int)<(↑l.length:Int)))<|.idx (show idxA 2 (.sl .sh (l.map encA)) (.int .i64 (↑(j+1):Int))=some (.ref (encA x).cells)from idx_row hd (by rfl))<|.load (rfl:loadA true 2 {boxes:=bs,toks:=[],loops:=[]:Heap} (.ref [.str x.name,.int .i64 x.n])=some (.agg [.str x.name,.int .i64 x.n]))<|.store (show storeA 2 {boxes:=bs++[[AV.str [],.int .i64 0]],toks:=[],loops:=[]:Heap} (.ptr bs.length 0) (.agg [.str x.name,.int .i64 x.n])=some (ζ1)from store_box2 (cs:=[.str [],.int .i64 0]) (cs':=[.str x.name,.int .i64 x.n]) (by simp+zetaDelta) rfl (by simp+zetaDelta [List.set_append]))<|.load (lB false 1 ζ1 bs.length 0 (.str x.name) [.str x.name,.int .i64 x.n])<|.callK ([.str x.name]) (.bool (isName x.name)) (show Gives cfg 54 [.str x.name] (.bool (isName x.name))from res_name _)<|.split (isName x.name=true) (fun h1=>.no (show(!isName x.name)=false from by have hh:isName x.name=true:=h1;simp[hh])<|.load (lB false 1 ζ1 bs.length 1 (.int .i64 x.n) [.str x.name,.int .i64 x.n])<|.split (x.n≤(0:Int)) (fun h2=>.yes (dT (x.n≤(0:Int)) h2)<|.fin ((.ret (.int .i64 1),ζ1)) (by simp only[IsRet];grind[ckVl,ordV])) (fun h2=>.no (dF (x.n≤(0:Int)) h2)<|.yes (dT ((0:Int)<(↑(j+1):Int)))<|.load (lB false 1 ζ1 bs.length 0 (.str x.name) [.str x.name,.int .i64 x.n])<|.bin (show binA .sub (.int .i64 (↑(j+1):Int)) (.int .i64 1)=some (.int .i64 ↑j)from dec_i (by omega))<|.idx (show idxA 2 (.sl .sh (l.map encA)) (.int .i64 ↑j)=some (.ref (encA p).cells)from idx_get hp (by rfl))<|.load (rfl:loadA false 1 ζ1 (.ref [.str p.name])=some (.str p.name))<|.split ((Op.bytesLess x.name p.name||x.name==p.name)=true) (fun h3=>.yes (show(Op.bytesLess x.name p.name||x.name==p.name)=true from h3)<|.fin ((.ret (.int .i64 13),ζ1)) (by simp only[IsRet];grind[ckVl,ordV])) (fun h3=>.no (show(Op.bytesLess x.name p.name||x.name==p.name)=false from Bool.eq_false_iff.2 h3)<|.bin (show binA .add (.int .i64 (↑(j+1):Int)) (.int .i64 1)=some (.int .i64 (↑(j+1+1):Int))from inc_i (by omega))<|.cutQ k50_0 [(0,.sl .sh (l.map encA)),(8,.sl .sh (l.map encA)),(9,.int .i64 (↑l.length)),(10,.int .i64 (↑(j+1+1):Int))] (ζ1) (fun T hT=>(ih (j+1+1) (bs++[[AV.str x.name,.int .i64 x.n]]) hnx T hT).to (by grind[ckVl,ordV]))))) (fun h1=>.yes (show(!isName x.name)=true from by have hh:¬(isName x.name=true):=h1;simp[hh])<|.fin ((.ret (.int .i64 3),ζ1)) (by simp only[IsRet];grind[ckVl,ordV])))
theorem ckV_any(l:List Amount):Gives cfg 50 [.sl .sh (l.map encA)] (.int .i64 (ckV l)):=by
 refine Gives.run (l50 _ _) ?_
 have h:=fun hn=>ckV_loop l hn l 0 [] rfl
 exact let ζ1:Heap:={boxes:=[],toks:=[],loops:=[]:Heap};gG 60 [] trivial (.len (lM .sh encA l)<|.split ((8:Int)<(↑l.length:Int)) (fun h1=>.yes (dT ((8:Int)<(↑l.length:Int)) h1)<|.fin ((.ret (.int .i64 4),ζ1)) (by simp only[IsRet];grind[ckV])) (fun h1=>.no (dF ((8:Int)<(↑l.length:Int)) h1)<|.len (lM .sh encA l)<|.cutQ k50_0 [(0,.sl .sh (l.map encA)),(8,.sl .sh (l.map encA)),(9,.int .i64 (↑l.length)),(10,.int .i64 0)] (ζ1) (fun T hT=>(h (by omega) T hT).to (by grind[ckV]))))
end Go.Aa.T
set_option linter.unusedVariables false
set_option linter.unusedSimpArgs false
set_option maxRecDepth 100000
namespace Go.Aa.T
open Go.Aa Go.Proofs
def firstE:List Int→Int
 |[]=>0
 |x::r=>if x=0 then firstE r else x
end Go.Aa.T
set_option linter.unusedVariables false
set_option linter.unusedSimpArgs false
set_option maxRecDepth 100000
namespace Go.Aa.T
open Go.Aa Go.Proofs
structure Node where
 name:List UInt8
 cap:List Amount
 labels:List Pair
 taints:List Taint
 cordon:Bool
def encN(n:Node):AV:=.agg [.str n.name,.sl .sh (n.cap.map encA),.sl .sh (n.labels.map encP),.sl .sh (n.taints.map encT),.bool n.cordon]
end Go.Aa.T
set_option linter.unusedVariables false
set_option linter.unusedSimpArgs false
set_option maxRecDepth 100000
namespace Go.Aa.T
open Go.Aa Go.Proofs
end Go.Aa.T
set_option linter.unusedVariables false
set_option linter.unusedSimpArgs false
set_option maxRecDepth 100000
namespace Go.Aa.T
open Go.Aa Go.Proofs
def short1(x:Amount):Bool:=decide (x.name.length≤50)
def fewA(l:List Amount):Bool:=decide (l.length≤20)&&l.all short1
instance(n:Node):Dat (encN n):=⟨rfl,rfl⟩
structure FewNd(n:Node):Prop where
 cap:n.cap.length≤20
 labels:n.labels.length≤20
 taints:n.taints.length≤20
def findG{X:Type}(nm:X→List UInt8)(l:List X)(n:List UInt8):Option X:=l.find? fun x=>nm x==n
def noN:Node:=⟨[],[],[],[],false⟩
def findNZ:List AV:=[.str [],.sl .full [],.sl .full [],.sl .full [],.bool false]
def findNV:Option Node→AV
 |none=>.tuple [.agg findNZ,.bool false]
 |some x=>.tuple [encN x,.bool true]
theorem findN_any_loop(l:List Node)(s:List UInt8)(hn:l.length<9223372036854775807):∀(post:List Node)(i:Nat)(bs:List (List AV))(hd:l.drop i=post)(T:Env)(hT:Has T [(4,.ptr 0 0),(1,.str s),(8,.sl .sh (l.map encN)),(9,.int .i64 l.length),(10,.int .i64 i)]),
 Goes cfg a23 k23_0 T ⟨findNZ::bs,[],[]⟩ (IsRet (findNV (findG Node.name post s))):=by
 intro post
 induction post with
 |nil=>
  intro i bs hd T hT
  have hge:=drop_ge hd
  exact let ζ1:List AV:=[.str [],.sl .full [],.sl .full [],.sl .full [],.bool false];let ζ2:Heap:={boxes:=ζ1::bs,toks:=[],loops:=[]:Heap};gG 60 _ hT (.no (dF ((↑i:Int)<(↑l.length:Int)))<|.store (show storeA 5 ζ2 (.ptr 0 0) (.agg ζ1)=some (ζ2)from store_box2 (cs:=ζ1) (cs':=ζ1) (by simp+zetaDelta) rfl (by simp+zetaDelta [List.set_append]))<|.fin ((.ret (.tuple [.agg ζ1,.bool false]),ζ2)) rfl)
 |cons x post ih=>
  intro i bs hd T hT
  have hlt:=drop_lt hd
  have hnx:=drop_next hd
  by_cases hx:Node.name x=s
  ·have e:findG Node.name (x::post) s=some x:=by simp[findG,List.find?_cons,hx]
   rw[e]
   exact let ζ1:List AV:=[.str x.name,.sl .sh (x.cap.map encA),.sl .sh (x.labels.map encP),.sl .sh (x.taints.map encT),.bool x.cordon];let ζ2:List AV:=[.str [],.sl .full [],.sl .full [],.sl .full [],.bool false];let ζ3:Heap:={boxes:=ζ2::(bs++[ζ1]),toks:=[],loops:=[]:Heap};let ζ4:Heap:={boxes:=ζ1::(bs++[ζ1]),toks:=[],loops:=[]:Heap};gG 60 _ hT (.yes (dT ((↑i:Int)<(↑l.length:Int)))<|.idx (iR 5 encN hd)<|.load (rfl:loadA true 5 {boxes:=ζ2::bs,toks:=[],loops:=[]:Heap} (.ref ζ1)=some (.agg ζ1))<|.store (show storeA 5 {boxes:=ζ2::(bs++[ζ2]),toks:=[],loops:=[]:Heap} (.ptr (ζ2::bs).length 0) (.agg ζ1)=some (ζ3)from store_box2 (cs:=ζ2) (cs':=ζ1) (by simp+zetaDelta) rfl (by simp+zetaDelta [List.set_append]))<|.load (show loadA false 1 ζ3 (.ptr (ζ2::bs).length 0)=some (.str x.name)from load_box (cs:=ζ1) (by simp+zetaDelta) rfl)<|.yes (show(x.name==s)=true from(by simpa using hx))<|.load (show loadA true 5 ζ3 (.ptr (ζ2::bs).length 0)=some (.agg ζ1)from load_box (cs:=ζ1) (by simp+zetaDelta) rfl)<|.store (show storeA 5 ζ3 (.ptr 0 0) (.agg ζ1)=some (ζ4)from store_box2 (cs:=ζ2) (cs':=ζ1) (by simp+zetaDelta) rfl (by simp+zetaDelta [List.set_append]))<|.fin ((.ret (.tuple [.agg ζ1,.bool true]),ζ4)) rfl)
  ·have e:findG Node.name (x::post) s=findG Node.name post s:=by simp[findG,List.find?_cons,hx]
   rw[e]
   exact let ζ1:List AV:=[.str x.name,.sl .sh (x.cap.map encA),.sl .sh (x.labels.map encP),.sl .sh (x.taints.map encT),.bool x.cordon];let ζ2:List AV:=[.str [],.sl .full [],.sl .full [],.sl .full [],.bool false];let ζ3:Heap:={boxes:=ζ2::(bs++[ζ1]),toks:=[],loops:=[]:Heap};gG 60 _ hT (.yes (dT ((↑i:Int)<(↑l.length:Int)))<|.idx (iR 5 encN hd)<|.load (rfl:loadA true 5 {boxes:=ζ2::bs,toks:=[],loops:=[]:Heap} (.ref ζ1)=some (.agg ζ1))<|.store (show storeA 5 {boxes:=ζ2::(bs++[ζ2]),toks:=[],loops:=[]:Heap} (.ptr (ζ2::bs).length 0) (.agg ζ1)=some (ζ3)from store_box2 (cs:=ζ2) (cs':=ζ1) (by simp+zetaDelta) rfl (by simp+zetaDelta [List.set_append]))<|.load (show loadA false 1 ζ3 (.ptr (ζ2::bs).length 0)=some (.str x.name)from load_box (cs:=ζ1) (by simp+zetaDelta) rfl)<|.no (show(x.name==s)=false from Bool.eq_false_iff.2 (by simpa using hx))<|.bin (iI i)<|.cutQ k23_0 [(4,.ptr 0 0),(1,.str s),(8,.sl .sh (l.map encN)),(9,.int .i64 (↑l.length)),(10,.int .i64 (↑(i+1)))] (ζ3) (fun T hT=>(ih (i+1) (bs++[ζ1]) hnx T hT)))
theorem findN_any(l:List Node)(s:List UInt8)(hn:l.length<9223372036854775807):Gives cfg 23 [.sl .sh (l.map encN),.str s] (findNV (findG Node.name l s)):=by
 refine Gives.run (l23 _ _) ?_
 have h:=findN_any_loop l s hn l 0 [] rfl
 exact gG 60 [] trivial (.len (lM .sh encN l)<|.cutQ k23_0 [(4,.ptr 0 0),(1,.str s),(8,.sl .sh (l.map encN)),(9,.int .i64 (↑l.length)),(10,.int .i64 0)] ({boxes:=[[.str [],.sl .full [],.sl .full [],.sl .full [],.bool false]],toks:=[],loops:=[]:Heap}) (fun T hT=>(h T hT)))
end Go.Aa.T
set_option linter.unusedVariables false
set_option linter.unusedSimpArgs false
set_option maxRecDepth 100000
namespace Go.Aa.T
open Go.Aa Go.Proofs
def inI(a:Int):Prop:= -9223372036854775808≤a∧a≤9223372036854775807
def bothE(a b:Int):Int:=if a<0 then 1 else if b<0 then 1 else 0
theorem both_any(a b:Int):Gives cfg 52 [.int .i64 a,.int .i64 b] (.int .i64 (bothE a b)):=by
 refine Gives.run (l52 _ _) ?_
 exact let ζ1:Heap:={boxes:=[],toks:=[],loops:=[]:Heap};gG 60 [] trivial (.split (a<(0:Int)) (fun h1=>.yes (dT (a<(0:Int)) h1)<|.tt<|.fin ((.ret (.int .i64 1),ζ1)) (by simp only[IsRet];grind[bothE])) (fun h1=>.no (dF (a<(0:Int)) h1)<|.split (b<(0:Int)) (fun h2=>.yes (dT (b<(0:Int)) h2)<|.fin ((.ret (.int .i64 1),ζ1)) (by simp only[IsRet];grind[bothE])) (fun h2=>.no (dF (b<(0:Int)) h2)<|.fin ((.ret (.int .i64 0),ζ1)) (by simp only[IsRet];grind[bothE]))))
theorem wrap_u64{x:Int}(h1:0≤x)(h2:x<18446744073709551616):IntKind.u64.wrap x=x:=by
 simp only[IntKind.wrap,IntKind.bits,IntKind.signed,Bool.false_and,show(2:Int)^64=18446744073709551616 from rfl,Bool.false_eq_true,if_false]
 omega
theorem conv_u64{x:Int}(h1:0≤x)(h2:x<18446744073709551616):convA (.int .u64) (.int .i64 x)=some (.int .u64 x):=by
 simp[convA,wrap_u64 h1 h2]
theorem addU{a b:Int}(h1:0≤a+b)(h2:a+b<18446744073709551616):binA .add (.int .u64 a) (.int .u64 b)=some (.int .u64 (a+b)):=by
 simp[binA,intBin,wrap_u64 h1 h2]
def toldQ(n:Int):Int×Int:=if 9223372036854775807<n then(0,5)else(n,0)
theorem told_any(n:Int)(h:0≤n):Gives cfg 53 [.int .u64 n,.bool false] (.tuple [.int .i64 (toldQ n).1,.int .i64 (toldQ n).2]):=by
 refine Gives.run (l53 _ _) ?_
 by_cases hn:9223372036854775807<n
 ·have e:toldQ n=(0,5):=by simp[toldQ,hn]
  rw[e]
  exact gG 60 [] trivial (.ff<|.yes (dT ((9223372036854775807:Int)<n) (by exact hn))<|.fin ((.ret (.tuple [.int .i64 0,.int .i64 5]),{boxes:=[],toks:=[],loops:=[]:Heap})) rfl)
 ·have e:toldQ n=(n,0):=by simp[toldQ,hn]
  rw[e]
  have hc:convA (.int .i64) (.int .u64 n)=some (.int .i64 n):=conv_i64 (by omega)
  exact gG 60 [] trivial (.ff<|.no (dF ((9223372036854775807:Int)<n) (by exact hn))<|.conv hc<|.fin ((.ret (.tuple [.int .i64 n,.int .i64 0]),{boxes:=[],toks:=[],loops:=[]:Heap})) rfl)
def addQ(a b:Int):Int×Int:=if bothE a b≠0 then(0,bothE a b)else toldQ (a+b)
theorem both_ok{a b:Int}(h:bothE a b=0):0≤a∧0≤b:=by
 unfold bothE at h
 split at h
 ·cases h
 ·split at h
  ·cases h
  ·omega
theorem qadd_any(a b:Int)(ha:inI a)(hb:inI b):Gives cfg 48 [.int .i64 a,.int .i64 b] (.tuple [.int .i64 (addQ a b).1,.int .i64 (addQ a b).2]):=by
 refine Gives.run (l48 _ _) ?_
 obtain⟨ha1,ha2⟩:=ha
 obtain⟨hb1,hb2⟩:=hb
 have h0:=both_any a b
 by_cases he:bothE a b=0
 ·have e:addQ a b=toldQ (a+b):=by simp[addQ,he]
  rw[e]
  obtain⟨i1,i2⟩:=both_ok he
  rw[he]at h0
  have h1:=told_any (a+b) (by omega)
  have c1:convA (.int .u64) (.int .i64 a)=some (.int .u64 a):=conv_u64 i1 (by omega)
  have c2:convA (.int .u64) (.int .i64 b)=some (.int .u64 b):=conv_u64 i2 (by omega)
  have c3:binA .add (.int .u64 a) (.int .u64 b)=some (.int .u64 (a+b)):=addU (by omega) (by omega)
  exact let ζ1:List AV:=[.int .i64 (toldQ (a+b)).fst,.int .i64 (toldQ (a+b)).snd];gG 60 [] trivial (.callK ([.int .i64 a,.int .i64 b]) (.int .i64 0) h0<|.ff<|.conv c1<|.conv c2<|.bin c3<|.callK ([.int .u64 (a+b),.bool false]) (.tuple ζ1) h1<|.fin ((.ret (.tuple ζ1),{boxes:=[],toks:=[],loops:=[]:Heap})) rfl)
 ·have e:addQ a b=(0,bothE a b):=by simp[addQ,he]
  rw[e]
  generalize bothE a b=c at*
  exact gG 60 [] trivial (.callK ([.int .i64 a,.int .i64 b]) (.int .i64 c) h0<|.yes (show(c !=(0:Int))=true from(by simpa using he))<|.fin ((.ret (.tuple [.int .i64 0,.int .i64 c]),{boxes:=[],toks:=[],loops:=[]:Heap})) rfl)
def getQ(v:List Amount)(s:List UInt8):Int:=match v.find? (fun x=>x.name==s)with
 |some x=>x.n
 |none=>0
theorem getQ_cons(x:Amount)(v:List Amount)(s:List UInt8):getQ (x::v) s=if x.name=s then x.n else getQ v s:=by
 unfold getQ
 by_cases h:x.name=s
 ·simp[List.find?_cons,h]
 ·simp[List.find?_cons,h]
section
variable{H:Heap}{g:FuncId}{k:Nat}{p:Amount→Bool}
theorem idxV_loop(hd:∀y:Amount,Does cfg (.call (.c (.func g [.ptr k 0])) [.c (encA y)]) H (.bool (p y)) H)(l:List Amount)(hn:l.length<9223372036854775807):∀(post:List Amount)(i:Nat)(hdr:l.drop i=post)(T:Env)
 (hT:Has T [(0,.sl .sh (l.map encA)),(1,.func g [.ptr k 0]),(7,.int .i64 l.length),(8,.int .i64 i)]),
 Goes cfg a38 k38_0 T H (fun r=>r=(.ret (.int .i64 (fidxB p post i)),H)):=by
 intro post
 induction post with
 |nil=>
  intro i hdr T hT
  have hge:=drop_ge hdr
  exact gG 60 _ hT (.no (dF ((↑i:Int)<(↑l.length:Int)))<|.fin ((.ret (.int .i64 (-1:Int)),H)) rfl)
 |cons x post ih=>
  intro i hdr T hT
  have hlt:=drop_lt hdr
  have hnx:=drop_next hdr
  have hdx:=hd x
  cases hp:p x with
  |true=>
   rw[hp]at hdx
   have e:fidxB p (x::post) i=i:=by simp[fidxB,hp]
   rw[e]
   exact gG 60 _ hT (.yes (dT ((↑i:Int)<(↑l.length:Int)))<|.idx (iR 2 encA hdr)<|.load (rfl:loadA true 2 H (.ref [.str x.name,.int .i64 x.n])=some (.agg [.str x.name,.int .i64 x.n]))<|.effY hdx<|.tt<|.fin ((.ret (.int .i64 ↑i),H)) rfl)
  |false=>
   rw[hp]at hdx
   have e:fidxB p (x::post) i=fidxB p post (i+1):=by simp[fidxB,hp]
   rw[e]
   exact gG 60 _ hT (.yes (dT ((↑i:Int)<(↑l.length:Int)))<|.idx (iR 2 encA hdr)<|.load (rfl:loadA true 2 H (.ref [.str x.name,.int .i64 x.n])=some (.agg [.str x.name,.int .i64 x.n]))<|.effY hdx<|.ff<|.bin (iI i)<|.cutQ k38_0 [(0,.sl .sh (l.map encA)),(1,.func g [.ptr k 0]),(7,.int .i64 (↑l.length)),(8,.int .i64 (↑(i+1)))] (H) (fun T hT=>(ih (i+1) hnx T hT)))
theorem idxV(hd:∀y:Amount,Does cfg (.call (.c (.func g [.ptr k 0])) [.c (encA y)]) H (.bool (p y)) H)(l:List Amount)(hn:l.length<9223372036854775807):
 lim cfg (.fn 38) [.sl .sh (l.map encA),.func g [.ptr k 0]] H=some (.ret (.int .i64 (fidxB p l 0)),H):=by
 rw[l38]
 have h:=idxV_loop hd l hn l 0 rfl
 have key:Goes cfg a38 [.c c38] (initEnv [.sl .sh (l.map encA),.func g [.ptr k 0]]) H (fun r=>r=(.ret (.int .i64 (fidxB p l 0)),H)):=by
  exact gG 60 [] trivial (.len (lM .sh encA l)<|.cutQ k38_0 [(0,.sl .sh (l.map encA)),(1,.func g [.ptr k 0]),(7,.int .i64 (↑l.length)),(8,.int .i64 0)] (H) (fun T hT=>(h T hT)))
 obtain⟨r,h,rfl⟩:=key
 exact h
end
theorem fidx_get(s:List UInt8):∀(l pre:List Amount)(i:Nat),pre.length=i→(getQ l s=0∧fidxB (fun x:Amount=>x.name==s) l i= -1)∨∃j x,fidxB (fun x:Amount=>x.name==s) l i=(j:Nat)∧(pre++l)[j]?=some x∧getQ l s=x.n
 |[],pre,i,h=>.inl ⟨rfl,rfl⟩
 |x::l,pre,i,h=>by
  by_cases hx:x.name=s
  ·refine .inr ⟨i,x,by simp[fidxB,hx],by simp[←h],by rw[getQ_cons,if_pos hx]⟩
  ·have e1:fidxB (fun x:Amount=>x.name==s) (x::l) i=fidxB (fun x:Amount=>x.name==s) l (i+1):=by simp[fidxB,hx]
   rw[getQ_cons,if_neg hx,e1]
   rcases fidx_get s l (pre++[x]) (i+1) (by simp[h])with h1|⟨j,y,h1,h2,h3⟩
   ·exact .inl h1
   ·exact .inr ⟨j,y,h1,by simpa using h2,h3⟩
theorem get_one(s:List UInt8)(y:Amount):Does cfg (.call (.c (.func 39 [.ptr 0 0])) [.c (encA y)]) ⟨[[.str s]],[],[]⟩ (.bool (y.name==s)) ⟨[[.str s]],[],[]⟩:=by
 have key:Goes cfg a39 [.c c39] (initEnv [encA y,.ptr 0 0]) ⟨[[.str s]],[],[]⟩ (fun r=>r=(.ret (.bool (y.name==s)),⟨[[.str s]]++[(encA y).cells],[],[]⟩)):=by
  exact gG 60 [] trivial (.fin ((.ret (.bool (y.name==s)),{boxes:=[[.str s],[.str y.name,.int .i64 y.n]],toks:=[],loops:=[]:Heap})) rfl)
 obtain⟨r,h,rfl⟩:=key
 have h2:lim cfg (.fn 39) ([encA y]++[.ptr 0 0]) ⟨[[.str s]],[],[]⟩=some (.ret (.bool (y.name==s)),⟨[[.str s]]++[(encA y).cells],[],[]⟩):=by
  rw[l39];exact h
 have hd:=does_callE h2 rfl rfl
 rwa [show shutA (.bool (y.name==s))=.bool (y.name==s)from rfl,trunc_plain (bs:=[[.str s]]) (ex:=[(encA y).cells]) (ts:=[]) rfl]at hd
theorem getQ_any(v:List Amount)(s:List UInt8)(hn:v.length<9223372036854775807):Gives cfg 33 [.sl .sh (v.map encA),.str s] (.int .i64 (getQ v s)):=by
 refine Gives.run (l33 _ _) ?_
 have h0:=does_callE (xs:=[.sl .sh (v.map encA),.func 39 [.ptr 0 0]]) (caps:=[]) (idxV (g:=39) (k:=0) (get_one s) v hn) rfl rfl
 rw[show shutA (.int .i64 (fidxB (fun y:Amount=>y.name==s) v 0))=.int .i64 (fidxB (fun y:Amount=>y.name==s) v 0)from rfl,
  show trunc (⟨[[.str s]],[],[]⟩:Heap).boxes.length (⟨[[.str s]],[],[]⟩:Heap).toks.length (.int .i64 (fidxB (fun y:Amount=>y.name==s) v 0)) ⟨[[.str s]],[],[]⟩=⟨[[.str s]],[],[]⟩from rfl]at h0
 rcases fidx_get s v [] 0 rfl with⟨h1,h2⟩|⟨j,x,h1,h2,h3⟩
 ·rw[h2]at h0
  rw[h1]
  exact let ζ1:Heap:={boxes:=[[.str s]],toks:=[],loops:=[]:Heap};gG 60 [] trivial (.effY h0<|.tt<|.fin ((.ret (.int .i64 0),ζ1)) rfl)
 ·rw[h1]at h0
  rw[h3]
  have hx:idxA 2 (.sl .sh (v.map encA)) (.int .i64 (j:Nat))=some (.ref [.str x.name,.int .i64 x.n]):=idx_get (f:=encA) (x:=x) (by simpa using h2) rfl
  exact let ζ1:Heap:={boxes:=[[.str s]],toks:=[],loops:=[]:Heap};gG 60 [] trivial (.effY h0<|.ff<|.idx hx<|.fin ((.ret (.int .i64 x.n),ζ1)) rfl)
end Go.Aa.T
