/-
  WHAT THE LAW LEANS ON, part 6 of 14: a machine of values and its soundness; the functions of the law upon it; what they come to.
-/
import Derived.Test.YthlhlfiklmmenaaGreatDoorYonce
import Derived.ChangeShapes
import Derived.ChangeReads
import Derived.ChangeOld
import Derived.ProofKit
import Derived.Carry
import Derived.DataElems
import Derived.Laws.Pointers
import Derived.Lib.SlTrimSet
import Derived.Shelf.Strings.SlTrimAscii
import Derived.Shelf.Strings.OnBuilder
import Derived.Shelf.Strings.Count
import Derived.Shelf.Strings.Search3
import Derived.Sort.Grow
import Derived.Sort.Walk0
import Derived.Sort.EncStr
import Derived.Lib.ParseIntB
import Derived.Lib.Bytealg
import Derived.Lib.LaidTab
import Derived.Lib.AppendIntMem
import Derived.Lib.AtoiErrMem
set_option linter.unusedVariables false
set_option linter.unusedSimpArgs false
namespace Go.Aa
open Go.RowKit Go.ChangeShapes Go.WideShapes Go.ChangeAt
def fltOf(b:Nat):AV:=if(FloatKind.f64.format.read b).isNaN=true then .nan else .flt b
theorem fltOf_rep{G:Ghost}{w:World}(b:Nat):Rep G w (.float .f64 b) (fltOf b):=by
 unfold fltOf
 split
 ·rename_i h;exact .nan b h
 ·exact .flt b
def tilesT(P:Program):Nat→List Field→Nat→Bool
 |off,[],tot=>off==tot
 |off,f::fs,tot=>(f.offset==off)&&tilesT P (off+P.cellsOf f.type) fs tot
def isAgg(P:Program)(t:TypeId):Bool:=match P.underlying t with
 |some (.struct _)=>true
 |_=>false
def plainT(P:Program):Nat→TypeId→Bool
 |0,_=>false
 |n+1,t=>
  match P.underlying t with
  |some .bool=>true
  |some (.int _)=>true
  |some (.float .f64)=>true
  |some .string=>true
  |some (.slice e)=>decide (0<P.cellsOf e)&&(isAgg P e||P.cellsOf e==1)&&plainT P n e
  |some (.struct fs)=>tilesT P 0 fs.toList (P.cellsOf t)&&fs.toList.all fun f=>plainT P n f.type
  |_=>false
def Tys(R:TypeId→List AV→Prop):List Field→List AV→Prop
 |[],xs=>xs=[]
 |f::fs,xs=>∃a b,xs=a++b∧R f.type a∧Tys R fs b
def Ty(P:Program):Nat→TypeId→List AV→Prop
 |0,_,_=>False
 |n+1,t,xs=>
  match P.underlying t with
  |some .bool=>∃b,xs=[.bool b]
  |some (.int k)=>∃m,xs=[.int k m]∧(Lit.int k m).wf=true
  |some (.float .f64)=>∃b,xs=[fltOf b]∧(Lit.float .f64 b).wf=true
  |some .string=>∃s,xs=[.str s]∧s.length≤9223372036854775807
  |some (.slice e)=>∃l:List AV,xs=[.sl .sh l]∧(l.length≤9223372036854775807∧∀x∈l,if isAgg P e then∃cs,x=.agg cs∧Ty P n e cs else Ty P n e [x])∧l.length*P.bytesOf e≤reachBytes
  |some (.struct fs)=>Tys (Ty P n) fs.toList xs
  |_=>False
section
variable{H:Type}{enc:TypeId×Value→H}{P:Program}{w:World}{base:Nat}{held:Bool}{G:Ghost}
theorem mapM_each{α β:Type}{f:α→Option β}{l:List α}{r:List β}(h:l.mapM f=some r):r.length=l.length∧∀i(h1:i<l.length)(h2:i<r.length),f l[i]=some r[i]:=by
 refine⟨mapM_some_length h,fun i h1 h2=> ?_⟩
 have:=mapM_some_get h i l[i] (List.getElem?_eq_getElem h1)
 rw[this,List.getElem?_eq_getElem h2]
theorem trod_spare:∀(n k:Nat)(t:TypeId)(cs:List Value)(x:DataW H×List MemPlace)(sp:Nat→Bool),plainT P k t=true→DataW.trod enc P w base (fun _=>true) held n t cs=some x→
 (∀p∈x.2,sp p.block=true)→DataW.trod enc P w base sp held n t cs=some x:=by
 intro n
 induction n with
 |zero=>intro k t cs x sp _ h;simp[DataW.trod]at h
 |succ n ih=>
  intro k t cs x sp hp h hs
  cases k with
  |zero=>cases hp
  |succ k=>
   unfold plainT at hp
   unfold DataW.trod at h⊢
   cases hu:P.underlying t with
   |none=>rw[hu]at hp;cases hp
   |some d=>
    rw[hu]at hp h
    cases d with
    |bool=>
     cases cs with
     |nil=>cases h
     |cons v r=>
      cases r with
      |cons v' r'=>cases v<;>cases h
      |nil=>cases v<;>first|exact h|cases h
    |int q=>
     cases cs with
     |nil=>cases h
     |cons v r=>
      cases r with
      |cons v' r'=>cases v<;>cases h
      |nil=>cases v<;>first|exact h|cases h
    |float q=>
     cases cs with
     |nil=>cases h
     |cons v r=>
      cases r with
      |cons v' r'=>cases v<;>cases h
      |nil=>cases v<;>first|exact h|cases h
    |string=>
     cases cs with
     |nil=>cases h
     |cons v r=>
      cases r with
      |cons v' r'=>cases v<;>cases h
      |nil=>cases v<;>first|exact h|cases h
    |slice e=>
     simp only[Bool.and_eq_true,decide_eq_true_eq]at hp
     obtain⟨⟨he,_⟩,hpe⟩:=hp
     cases cs with
     |nil=>cases h
     |cons v r=>
      cases r with
      |cons v' r'=>exact(by cases v<;>first|(cases h;done)|(rename_i oa len cap;cases oa<;>cases len<;>cases cap<;>cases h))
      |nil=>
       cases v with
       |slice oa len cap=>
        cases oa with
        |none=>cases len<;>cases cap<;>first|exact h|cases h
        |some a=>
         simp only at h⊢
         split at h
         ·rename_i hc
          rw[if_pos hc]
          cases he1:(List.range len).mapM fun i=>(w.cells? base (a.add (i*P.cellsOf e)) (P.cellsOf e)).bind (DataW.trod enc P w base (fun _=>true) held n e)with
          |none=>rw[he1]at h;cases h
          |some elems=>
           rw[he1]at h
           simp only[Option.bind_some,if_true]at h
           cases he2:(List.range (cap-len)).mapM fun j=>(w.cells? base (a.add ((len+j)*P.cellsOf e)) (P.cellsOf e)).bind (DataW.trod enc P w base (fun _=>true) held n e)with
           |none=>rw[he2]at h;cases h
           |some rest=>
            rw[he2]at h
            simp only[Option.map_some,Option.some.injEq]at h
            subst h
            have one:∀(i:Nat)(y:DataW H×List MemPlace),y∈elems++rest→(w.cells? base (a.add (i*P.cellsOf e)) (P.cellsOf e)).bind (DataW.trod enc P w base (fun _=>true) held n e)=some y→
             (w.cells? base (a.add (i*P.cellsOf e)) (P.cellsOf e)).bind (DataW.trod enc P w base sp held n e)=some y:=by
             intro i y hy hf
             cases hcs:w.cells? base (a.add (i*P.cellsOf e)) (P.cellsOf e)with
             |none=>rw[hcs]at hf;cases hf
             |some cs'=>
              rw[hcs]at hf
              simp only[Option.bind_some]at hf⊢
              exact ih k e cs' y sp hpe hf fun p hp=>hs p (by
               simp only[List.mem_append,List.mem_flatMap]
               exact .inr ⟨y,by simpa using hy,hp⟩)
            rw[mapM_carry he1 (fun i y _ hy hf=>one i y (by simp[hy]) hf)]
            simp only[Option.bind_some]
            have hrest:(if sp a.block=true then(List.range (cap-len)).mapM fun j=>(w.cells? base (a.add ((len+j)*P.cellsOf e)) (P.cellsOf e)).bind (DataW.trod enc P w base sp held n e)else some [])=some rest:=by
             by_cases hsp:sp a.block=true
             ·rw[if_pos hsp]
              exact mapM_carry he2 (fun j y _ hy hf=>one (len+j) y (by simp[hy]) hf)
             ·rw[if_neg hsp]
              have hr:=(mapM_each he2).1
              rw[List.length_range]at hr
              cases rest with
              |nil=>rfl
              |cons r0 rs=>
               exfalso
               refine hsp (hs (.cell a.block (a.off+0)) ?_)
               simp only[List.mem_append]
               refine .inl (MemPlace.mem_row.2 ⟨0,?_,rfl⟩)
               simp only[List.length_cons]
               exact Nat.mul_pos (by omega) he
            rw[hrest]
            rfl
         ·cases h
       |_=>cases h
    |struct fs=>
     simp only[Bool.and_eq_true,List.all_eq_true]at hp
     simp only at h⊢
     split at h
     ·rename_i hc
      rw[if_pos hc]
      cases he:fs.toList.mapM fun f=>DataW.trod enc P w base (fun _=>true) held n f.type ((cs.drop f.offset).take (P.cellsOf f.type))with
      |none=>rw[he]at h;cases h
      |some ys=>
       rw[he]at h
       simp only[Option.map_some,Option.some.injEq]at h
       subst h
       rw[mapM_carry he (fun f y hf hy hfy=>ih k f.type _ y sp (hp.2 f hf) hfy fun p hp'=>hs p (by simp only[List.mem_flatMap];exact⟨y,hy,hp'⟩))]
       rfl
     ·cases h
    |_=>cases hp
theorem cells_each{a:Addr}{n:Nat}{cs:List Value}(h:w.cells? base a n=some cs):cs.length=n∧∀j(hj:j<cs.length),w.cell? (a.add j)=some cs[j]:=by
 obtain⟨_,h1,h2⟩:=World.cells?_some h
 exact⟨h1,fun j hj=>by rw[h2 j (by omega),List.getElem?_eq_getElem hj]⟩
theorem addr_off(a:Addr)(n:Nat):(a.add n).off=a.off+n:=by unfold Addr.add;split<;>simp_all
theorem addr_block(a:Addr)(n:Nat):(a.add n).block=a.block:=by unfold Addr.add;split<;>rfl
theorem addr_add(a:Addr)(m n:Nat):(a.add m).add n=a.add (m+n):=Addr.add_add a m n
theorem cell_spot{a:Addr}{v:Value}(h:w.cell? a=some v):a.spot=none:=by
 unfold World.cell? at h
 split at h
 ·split at h
  ·cases h
  ·rename_i hs;simpa using hs
 ·cases h
def mkE(P:Program)(e:TypeId)(xs:List AV):AV:=if isAgg P e then .agg xs else xs.headD .undef
theorem single{k:Nat}{e:TypeId}{y:AV}(h:Ty P k e [y])(hn:isAgg P e=false):y.cells=[y]:=by
 cases k with
 |zero=>cases h
 |succ k=>
  unfold Ty at h
  unfold isAgg at hn
  cases hu:P.underlying e with
  |none=>rw[hu]at h;cases h
  |some d=>
   rw[hu]at h hn
   cases d with
   |bool=>obtain⟨b,hb⟩:=h;cases hb;rfl
   |int q=>obtain⟨b,hb,_⟩:=h;cases hb;rfl
   |float q=>
    cases q with
    |f32=>cases h
    |f64=>
     obtain⟨b,hb,_⟩:=h
     simp only[List.cons.injEq,and_true]at hb
     subst hb
     unfold fltOf;split<;>rfl
   |string=>obtain⟨b,hb,_⟩:=h;cases hb;rfl
   |slice q=>obtain⟨b,hb,_⟩:=h;cases hb;rfl
   |struct fs=>cases hn
   |_=>cases h
theorem mkE_cells{k:Nat}{e:TypeId}{xs:List AV}(h:Ty P k e xs)(hx:isAgg P e=true∨xs.length=1):(mkE P e xs).cells=xs:=by
 unfold mkE
 cases ha:isAgg P e with
 |true=>rfl
 |false=>
  rcases hx with h1|h1
  ·rw[ha]at h1;cases h1
  ·obtain⟨y,rfl⟩:=List.length_eq_one_iff.1 h1
   exact single h ha
theorem mkE_ty{k:Nat}{e:TypeId}{xs:List AV}(h:Ty P k e xs)(hx:isAgg P e=true∨xs.length=1):if isAgg P e then∃cs,mkE P e xs=.agg cs∧Ty P k e cs else Ty P k e [mkE P e xs]:=by
 unfold mkE
 cases ha:isAgg P e with
 |true=>exact⟨xs,rfl,h⟩
 |false=>
  rcases hx with h1|h1
  ·rw[ha]at h1;cases h1
  ·obtain⟨y,rfl⟩:=List.length_eq_one_iff.1 h1
   exact h
theorem tiles_le:∀{fs:List Field}{off tot:Nat},tilesT P off fs tot=true→off≤tot
 |[],off,tot,h=>by simp[tilesT]at h;omega
 |f::fs,off,tot,h=>by
  simp only[tilesT,Bool.and_eq_true]at h
  have:=tiles_le h.2
  omega
theorem weights_at{ts:List TypeId}{ds:List (DataW H)}:∀{e:TypeId}{l:List (DataW H)},(DataW.weightsAll P e l).all (·≤reachBytes)=true→∀(i:Nat)(h:i<l.length),(l[i].weights P e).all (·≤reachBytes)=true
 |e,[],_,i,h=>absurd h (by simp)
 |e,d::l,hw,0,h=>by
  simp only[DataW.weightsAll,List.all_append,Bool.and_eq_true]at hw
  exact hw.1
 |e,d::l,hw,i+1,h=>by
  simp only[DataW.weightsAll,List.all_append,Bool.and_eq_true]at hw
  exact weights_at (ts:=ts) (ds:=ds) hw.2 i (by simpa using h)
theorem fields_rep{n:Nat}{R:TypeId→List AV→Prop}{cs:List Value}{tot:Nat}(hcs:cs.length=tot):∀{fs:List Field}{off:Nat}{ys:List (DataW H×List MemPlace)},
 (∀f∈fs,∀y,DataW.trod enc P w base (fun _=>true) held n f.type ((cs.drop f.offset).take (P.cellsOf f.type))=some y→(y.1.weights P f.type).all (·≤reachBytes)=true→
   ∃xs:List AV,xs.length=((cs.drop f.offset).take (P.cellsOf f.type)).length∧(∀(i:Nat)v y,((cs.drop f.offset).take (P.cellsOf f.type))[i]?=some v→xs[i]?=some y→Rep G w v y)∧(∀y∈xs,AV.Data y)∧R f.type xs)→
 tilesT P off fs tot=true→(fs.mapM fun f=>DataW.trod enc P w base (fun _=>true) held n f.type ((cs.drop f.offset).take (P.cellsOf f.type)))=some ys→(DataW.weightsEach P (fs.map (·.type)) (ys.map (·.1))).all (·≤reachBytes)=true→
 ∃xs:List AV,xs.length=tot-off∧(∀(i:Nat)v y,cs[off+i]?=some v→xs[i]?=some y→Rep G w v y)∧(∀y∈xs,AV.Data y)∧Tys R fs xs
 |[],off,ys,_,ht,_,_=>by
  simp[tilesT]at ht
  exact⟨[],by simp;omega,fun i v y _ h=>(by simp at h),fun y hy=>(by cases hy),rfl⟩
 |f::fs,off,ys,ih,ht,hm,hwt=>by
  simp only[tilesT,Bool.and_eq_true,beq_iff_eq]at ht
  obtain⟨hoff,ht⟩:=ht
  have hle:=tiles_le ht
  rw[List.mapM_cons]at hm
  cases h1:DataW.trod enc P w base (fun _=>true) held n f.type ((cs.drop f.offset).take (P.cellsOf f.type))with
  |none=>rw[h1]at hm;cases hm
  |some y=>
   rw[h1]at hm
   cases h2:fs.mapM fun f=>DataW.trod enc P w base (fun _=>true) held n f.type ((cs.drop f.offset).take (P.cellsOf f.type))with
   |none=>rw[h2]at hm;cases hm
   |some ys'=>
    rw[h2]at hm
    cases hm
    simp only[List.map_cons,DataW.weightsEach,List.all_append,Bool.and_eq_true]at hwt
    obtain⟨a,a1,a2,a3,a4⟩:=ih f (by simp) y h1 hwt.1
    obtain⟨b,b1,b2,b3,b4⟩:=fields_rep hcs (fun f hf=>ih f (by simp[hf])) ht h2 hwt.2
    rw[List.length_take,List.length_drop,hoff]at a1
    have la:a.length=P.cellsOf f.type:=by omega
    refine⟨a++b,by rw[List.length_append];omega,fun i v y hv hy=> ?_,fun y hy=> ?_,a,b,rfl,a4,b4⟩
    ·rcases Nat.lt_or_ge i a.length with hi|hi
     ·rw[List.getElem?_append_left hi]at hy
      refine a2 i v y ?_ hy
      rw[List.getElem?_take,if_pos (by omega),List.getElem?_drop,hoff]
      exact hv
     ·rw[List.getElem?_append_right hi]at hy
      refine b2 (i-a.length) v y ?_ hy
      rw[←hv];congr 1;omega
    ·rcases List.mem_append.1 hy with hy|hy
     ·exact a3 y hy
     ·exact b3 y hy
theorem trod_rep(hG:∀a v,w.cell? a=some v→a.off<G.lim a.block):∀(n k:Nat)(t:TypeId)(cs:List Value)(x:DataW H×List MemPlace),plainT P k t=true→DataW.trod enc P w base (fun _=>true) held n t cs=some x→(x.1.weights P t).all (·≤reachBytes)=true→
 ∃xs:List AV,xs.length=cs.length∧(∀(i:Nat)v y,cs[i]?=some v→xs[i]?=some y→Rep G w v y)∧(∀y∈xs,AV.Data y)∧Ty P k t xs:=by
 intro n
 induction n with
 |zero=>intro k t cs x _ h;simp[DataW.trod]at h
 |succ n ih=>
  intro k t cs x hp h hwt
  cases k with
  |zero=>cases hp
  |succ k=>
   unfold plainT at hp
   unfold DataW.trod at h
   unfold Ty
   cases hu:P.underlying t with
   |none=>rw[hu]at hp;cases hp
   |some d=>
    rw[hu]at hp h
    have one:∀(v:Value)(y:AV),Rep G w v y→∀(i:Nat)v' y',[v][i]?=some v'→[y][i]?=some y'→Rep G w v' y':=fun v y hr i v' y' h1 h2=>by
     cases i with
     |zero=>cases h1;cases h2;exact hr
     |succ i=>cases h1
    have done:∀(v:Value)(y:AV),AV.Data y→Rep G w v y→∀z∈[y],AV.Data z:=fun v y hd _ z hz=>by
     rw[List.mem_singleton]at hz;subst hz;exact hd
    cases d with
    |bool=>
     cases cs with
     |nil=>cases h
     |cons v r=>
      cases r with
      |cons v' r'=>cases v<;>cases h
      |nil=>
       cases v with
       |bool b=>exact⟨[.bool b],rfl,one _ _ (.bool b),done _ _ (.bool b) (.bool (w:=w) (G:=G) b),b,rfl⟩
       |_=>cases h
    |int q=>
     cases cs with
     |nil=>cases h
     |cons v r=>
      cases r with
      |cons v' r'=>cases v<;>cases h
      |nil=>
       cases v with
       |int q' m=>
        simp only at h
        split at h
        ·rename_i hc
         obtain⟨rfl,hw⟩:=hc
         exact⟨[.int q' m],rfl,one _ _ (.int q' m),done _ _ (.int q' m) (.int (w:=w) (G:=G) q' m),m,rfl,hw⟩
        ·cases h
       |_=>cases h
    |float q=>
     cases q with
     |f32=>cases hp
     |f64=>
     cases cs with
     |nil=>cases h
     |cons v r=>
      cases r with
      |cons v' r'=>cases v<;>cases h
      |nil=>
       cases v with
       |float q' m=>
        simp only at h
        split at h
        ·rename_i hc
         obtain⟨rfl,hw⟩:=hc
         refine⟨[fltOf m],rfl,one _ _ (fltOf_rep m),done (.float .f64 m) _ ?_ (fltOf_rep m),m,rfl,hw⟩
         unfold fltOf
         split
         ·exact .nan
         ·exact .flt m
        ·cases h
       |_=>cases h
    |string=>
     cases cs with
     |nil=>cases h
     |cons v r=>
      cases r with
      |cons v' r'=>cases v<;>cases h
      |nil=>
       cases v with
       |string b=>
        simp only at h
        split at h
        ·rename_i hc
         refine⟨[.str b.data.toList],rfl,one _ _ (.str (w:=w) (G:=G) b.data.toList),done (.string b) _ (.str _) (.str (w:=w) (G:=G) b.data.toList),_,rfl,?_⟩
         exact hc
        ·cases h
       |_=>cases h
    |slice e=>
     simp only[Bool.and_eq_true,decide_eq_true_eq]at hp
     obtain⟨⟨he,hag⟩,hpe⟩:=hp
     cases cs with
     |nil=>cases h
     |cons v r=>
      cases r with
      |cons v' r'=>exact(by cases v<;>first|(cases h;done)|(rename_i oa len cap;cases oa<;>cases len<;>cases cap<;>cases h))
      |nil=>
       cases v with
       |slice oa len cap=>
        cases oa with
        |none=>
         cases len with
         |succ l=>cases h
         |zero=>
          cases cap with
          |succ l=>cases h
          |zero=>exact⟨[.sl .sh []],rfl,one _ _ (.sl0 none 0 .sh (fun hh=>by cases hh) (fun t hh=>by cases hh)),done (.slice none 0 0) _ (.sl _ _ (fun t hh=>by cases hh) (fun x hx=>by cases hx)) (.sl0 none 0 .sh (fun hh=>by cases hh) (fun t hh=>by cases hh)),[],rfl,⟨by simp,fun x hx=>by cases hx⟩,by simp⟩
        |some a=>
         simp only at h
         split at h
         ·rename_i hc
          cases he1:(List.range len).mapM fun i=>(w.cells? base (a.add (i*P.cellsOf e)) (P.cellsOf e)).bind (DataW.trod enc P w base (fun _=>true) held n e)with
          |none=>rw[he1]at h;cases h
          |some elems=>
           obtain⟨hl,hel⟩:=mapM_each he1
           rw[List.length_range]at hl
           rw[he1,Option.bind_some,Option.map_eq_some_iff]at h
           obtain⟨rest,-,h⟩:=h
           subst h
           simp only[DataW.weights,hu,List.all_cons,List.all_append,Bool.and_eq_true,decide_eq_true_eq,List.length_map]at hwt
           have hwe:=weights_at (ts:=[]) (ds:=[]) hwt.2.1
           have each:∀i,∃p:List Value×List AV,i<len→p.1.length=P.cellsOf e∧(∀j(hj:j<p.1.length),w.cell? (a.add (i*P.cellsOf e+j))=some p.1[j])∧p.2.length=P.cellsOf e∧
            (∀(j:Nat)v y,p.1[j]?=some v→p.2[j]?=some y→Rep G w v y)∧(∀y∈p.2,AV.Data y)∧Ty P k e p.2:=by
            intro i
            by_cases hi:i<len
            ·have:=hel i (by simpa using hi) (by omega)
             simp only[List.getElem_range]at this
             cases hcs:w.cells? base (a.add (i*P.cellsOf e)) (P.cellsOf e)with
             |none=>rw[hcs]at this;cases this
             |some row=>
              rw[hcs]at this
              obtain⟨r1,r2⟩:=cells_each hcs
              obtain⟨xs,x1,x3,x4,x5⟩:=ih k e row _ hpe this (by have:=hwe i (by rw[List.length_map];omega);rwa [List.getElem_map]at this)
              exact⟨(row,xs),fun _=>⟨r1,fun j hj=>by rw[←r2 j hj,addr_add],by simp only;omega,x3,x4,x5⟩⟩
            ·exact⟨([],[]),fun hh=>absurd hh hi⟩
           obtain⟨f,hf⟩:=Classical.axiomOfChoice each
           have hcells:∀i,i<len→(mkE P e (f i).2).cells=(f i).2:=fun i hi=>mkE_cells (hf i hi).2.2.2.2.2 (by
            have:=(hf i hi).2.2.1
            rcases Bool.or_eq_true _ _▸hag with h1|h1
            ·exact .inl h1
            ·exact .inr (by rw[this];simpa using h1))
           have hlen:((List.range len).map fun i=>mkE P e (f i).2).length=len:=by simp
           have hget:∀i(hi:i<((List.range len).map fun i=>mkE P e (f i).2).length),((List.range len).map fun i=>mkE P e (f i).2)[i]=mkE P e (f i).2:=fun i hi=>by simp
           have hdat:∀x∈((List.range len).map fun i=>mkE P e (f i).2),∀y∈x.cells,AV.Data y:=fun x hx y hy=>by
            obtain⟨i,hi,rfl⟩:=List.mem_map.1 hx
            rw[List.mem_range]at hi
            rw[hcells i hi]at hy
            exact(hf i hi).2.2.2.2.1 y hy
           have hrep:Rep G w (.slice (some a) len cap) (.sl .sh ((List.range len).map fun i=>mkE P e (f i).2)):=by
            rcases Nat.eq_zero_or_pos len with h0|h0
            ·subst h0
             exact .sl0 (some a) cap .sh (fun hh=>by cases hh) (fun t hh=>by cases hh)
            ·have hs:a.spot=none:=by
              obtain⟨r1,r2,_⟩:=hf 0 h0
              have:=r2 0 (by omega)
              rw[show 0*P.cellsOf e+0=0 by omega]at this
              exact cell_spot (a:=a) this
             have:=Rep.sl (G:=G) (w:=w) a cap .sh ((List.range len).map fun i=>mkE P e (f i).2) (P.cellsOf e) (fun i j=>((f i).1[j]?).getD Go.undef) (by
              intro hh
              have:=congrArg List.length hh
              rw[hlen]at this
              simp at this;omega)
              (by rw[hlen];exact hc.2.1) hc.2.2 hs (fun i hi=>by rw[hget i hi,hcells i (by omega)];exact(hf i (by omega)).2.2.1) he hdat
              (by
                rw[hlen]
                obtain⟨r1,r2,_⟩:=hf (len-1) (by omega)
                have:=hG _ _ (r2 (P.cellsOf e-1) (by omega))
                have e2:(a.add ((len-1)*P.cellsOf e+(P.cellsOf e-1))).off=a.off+((len-1)*P.cellsOf e+(P.cellsOf e-1)):=addr_off _ _
                rw[e2]at this
                have e3:len*P.cellsOf e=(len-1)*P.cellsOf e+P.cellsOf e:=by
                 conv=>lhs;rw[show len=(len-1)+1 by omega,Nat.add_mul,Nat.one_mul]
                have e4:(a.add ((len-1)*P.cellsOf e+(P.cellsOf e-1))).block=a.block:=addr_block _ _
                rw[e4]at this
                omega)
              (fun i hi j hj=>by
                rw[hlen]at hi
                obtain⟨r1,r2,_⟩:=hf i hi
                have hj':j<(f i).1.length:=by omega
                rw[r2 j hj',List.getElem?_eq_getElem hj'];rfl)
              (fun i hi j hj=>by
                have hi':i<len:=by omega
                obtain⟨r1,r2,r3,r4,_⟩:=hf i hi'
                simp only[hget i hi,hcells i hi']at hj⊢
                have hj':j<(f i).1.length:=by omega
                rw[List.getElem?_eq_getElem hj']
                exact r4 j _ _ (List.getElem?_eq_getElem hj') (List.getElem?_eq_getElem hj))
              (fun hh=>by cases hh) (fun t hh=>by cases hh)
             rw[hlen]at this
             exact this
           refine⟨_,rfl,one _ _ hrep,done _ _ (.sl _ _ (fun t hh=>by cases hh) hdat) hrep,_,rfl,⟨?_,?_⟩,by rw[hlen,←hl];exact Nat.le_trans (Nat.mul_le_mul_right _ (Nat.le_add_right _ _)) hwt.1⟩
           ·rw[hlen]
            have:=hc.2.2
            have:=hc.2.1
            have e:maxLen=9223372036854775807:=rfl
            omega
           ·intro x hx
            obtain⟨i,hi,rfl⟩:=List.mem_map.1 hx
            rw[List.mem_range]at hi
            exact mkE_ty (hf i hi).2.2.2.2.2 (by
             have:=(hf i hi).2.2.1
             rcases Bool.or_eq_true _ _▸hag with h1|h1
             ·exact .inl h1
             ·exact .inr (by rw[this];simpa using h1))
         ·cases h
       |_=>cases h
    |struct fs=>
     simp only[Bool.and_eq_true,List.all_eq_true]at hp
     simp only at h
     split at h
     ·rename_i hc
      cases he:fs.toList.mapM fun f=>DataW.trod enc P w base (fun _=>true) held n f.type ((cs.drop f.offset).take (P.cellsOf f.type))with
      |none=>rw[he]at h;cases h
      |some ys=>
       rw[he]at h
       simp only[Option.map_some,Option.some.injEq]at h
       subst h
       simp only[DataW.weights,hu]at hwt
       obtain⟨xs,x1,x2,x3,x4⟩:=fields_rep (R:=Ty P k) (tot:=P.cellsOf t) (cs:=cs) hc (fun f hf ys hy hw=>ih k f.type _ ys (hp.2 f hf) hy hw) hp.1 he hwt
       exact⟨xs,by omega,fun i v y h1 h2=>x2 i v y (by simpa using h1) h2,x3,x4⟩
     ·cases h
    |_=>cases hp
def TyV(P:Program)(k:Nat)(t:TypeId)(x:AV):Prop:=if isAgg P t then∃cs,x=.agg cs∧Ty P k t cs else Ty P k t [x]
def TyAll(P:Program)(k:Nat):List TypeId→List AV→Prop
 |[],[]=>True
 |t::ts,x::xs=>TyV P k t x∧TyAll P k ts xs
 |_,_=>False
theorem not_agg{k:Nat}{r:Reach}{b0:Nat}{t:TypeId}{v:Value}(hp:plainT P k t=true)(ha:isAgg P t=false)(hval:Value.okWide P w r b0 t v):v.cells= #[v]:=by
 cases k with
 |zero=>cases hp
 |succ k=>
  unfold plainT at hp
  unfold isAgg at ha
  unfold Value.okWide at hval
  cases hu:P.underlying t with
  |none=>rw[hu]at hp;cases hp
  |some d=>
   rw[hu]at hp ha hval
   cases d with
   |struct fs=>cases ha
   |bool=>cases v<;>first|rfl|(simp[Cell.okWide,Cell.ok,hu]at hval;done)
   |int q=>cases v<;>first|rfl|(simp[Cell.okWide,Cell.ok,hu]at hval;done)
   |float q=>cases v<;>first|rfl|(simp[Cell.okWide,Cell.ok,hu]at hval;done)
   |string=>cases v<;>first|rfl|(simp[Cell.okWide,Cell.ok,hu]at hval;done)
   |slice q=>cases v<;>first|rfl|(simp[Cell.okWide,Cell.ok,hu]at hval;done)
   |_=>cases hp
theorem agg_of{r:Reach}{b0:Nat}{t:TypeId}{v:Value}(ha:isAgg P t=true)(hval:Value.okWide P w r b0 t v):∃cs,v=.agg cs:=by
 unfold isAgg at ha
 unfold Value.okWide at hval
 cases hu:P.underlying t with
 |none=>rw[hu]at ha;cases ha
 |some d=>
  rw[hu]at ha hval
  cases d with
  |struct fs=>obtain⟨cs,h,_⟩:=hval;exact⟨cs,h⟩
  |_=>cases ha
theorem one_rep(hG:∀a v,w.cell? a=some v→a.off<G.lim a.block){k:Nat}{r:Reach}{b0:Nat}{t:TypeId}{v:Value}{d:DataW H}{ps:List MemPlace}(hp:plainT P k t=true)(hval:Value.okWide P w r b0 t v)
 (h:DataW.Trod enc P w base (fun _=>true) held t v d ps)(hwt:(d.weights P t).all (·≤reachBytes)=true):∃x,Rep G w v x∧TyV P k t x:=by
 obtain⟨n,hn⟩:=h
 obtain⟨xs,x1,x2,x3,x4⟩:=trod_rep hG n k t _ _ hp hn hwt
 unfold TyV
 cases ha:isAgg P t with
 |true=>
  obtain⟨cs,rfl⟩:=agg_of ha hval
  refine⟨.agg xs,.agg cs xs (by rw[x1];exact Array.length_toList.symm) (fun i h1 h2=>x2 i _ _ ?_ (List.getElem?_eq_getElem h2)),xs,rfl,x4⟩
  rw[show(Value.agg cs).cells=cs from rfl,Array.getElem?_toList,Array.getElem?_eq_getElem h1]
 |false=>
  have hc:=not_agg hp ha hval
  rw[hc]at x1 x2
  obtain⟨y,rfl⟩:=List.length_eq_one_iff.1 (x1.trans rfl)
  exact⟨y,x2 0 v y rfl rfl,x4⟩
theorem all_rep(hG:∀a v,w.cell? a=some v→a.off<G.lim a.block){k:Nat}{r:Reach}{b0:Nat}:∀{ts:List TypeId}{vs:List Value}{ds:List (DataW H)}{ps:List MemPlace},ts.all (plainT P k)=true→
 (∀(j:Nat)t v,ts[j]?=some t→vs[j]?=some v→Value.okWide P w r b0 t v)→DataW.TrodAll enc P w base (fun _=>true) held ts vs ds ps→(DataW.weightsEach P ts ds).all (·≤reachBytes)=true→
 ∃xs:List AV,xs.length=vs.length∧(∀(i:Nat)v y,vs[i]?=some v→xs[i]?=some y→Rep G w v y)∧TyAll P k ts xs
 |[],[],[],ps,_,_,_,_=>⟨[],rfl,fun i v y h=>(by simp at h),trivial⟩
 |t::ts,v::vs,d::ds,ps,hp,hval,⟨p,q,h1,h2,_⟩,hwt=>by
  rw[List.all_cons,Bool.and_eq_true]at hp
  simp only[DataW.weightsEach,List.all_append,Bool.and_eq_true]at hwt
  obtain⟨x,hx,hy⟩:=one_rep hG hp.1 (hval 0 t v rfl rfl) h1 hwt.1
  obtain⟨xs,x1,x2,x3⟩:=all_rep hG hp.2 (fun j t v a b=>hval (j+1) t v a b) h2 hwt.2
  refine⟨x::xs,by simp[x1],fun i v' y' a b=> ?_,hy,x3⟩
  cases i with
  |zero=>cases a;cases b;exact hx
  |succ i=>exact x2 i v' y' a b
 |[],[],_::_,_,_,_,h,_=>h.elim
 |[],_::_,_,_,_,_,h,_=>h.elim
 |_::_,[],_,_,_,_,h,_=>h.elim
 |_::_,_::_,[],_,_,_,h,_=>h.elim
theorem all_shut{w':World}{k:Nat}{sp:Nat→Bool}(hB:Below w.heap.size w w'):∀{ts:List TypeId}{vs:List Value}{ds:List (DataW H)}{ps:List MemPlace},ts.all (plainT P k)=true→
 (∀p∈ps,sp p.block=true)→DataW.TrodAll enc P w base (fun _=>true) held ts vs ds ps→DataW.TrodAll enc P w' base sp held ts vs ds ps
 |[],[],[],ps,_,_,h=>h
 |t::ts,v::vs,d::ds,ps,hp,hs,⟨p,q,⟨n,h1⟩,h2,e⟩=>by
  subst e
  rw[List.all_cons,Bool.and_eq_true]at hp
  refine⟨p,q,⟨n,?_⟩,all_shut hB hp.2 (fun x hx=>hs x (by simp[hx])) h2,rfl⟩
  refine DataW.trod_carry n _ _ _ (trod_spare n k _ _ _ sp hp.1 h1 fun x hx=>hs x (by simp[hx])) (fun x hx=>hB.same (DataW.trod_lt n _ _ _ h1 x hx))
 |[],[],_::_,_,_,_,h=>h.elim
 |[],_::_,_,_,_,_,h=>h.elim
 |_::_,[],_,_,_,_,h=>h.elim
 |_::_,_::_,[],_,_,_,h=>h.elim
theorem all_len{sp:Nat→Bool}:∀{ts:List TypeId}{vs:List Value}{ds:List (DataW H)}{ps:List MemPlace},DataW.TrodAll enc P w base sp held ts vs ds ps→vs.length=ts.length∧ds.length=ts.length
 |[],[],[],_,_=>⟨rfl,rfl⟩
 |t::ts,v::vs,d::ds,ps,⟨p,q,h1,h2,e⟩=>by
  obtain⟨a,b⟩:=all_len h2
  exact⟨by simp[a],by simp[b]⟩
 |[],[],_::_,_,h=>h.elim
 |[],_::_,_,_,h=>h.elim
 |_::_,[],_,_,h=>h.elim
 |_::_,_::_,[],_,h=>h.elim
def GW(w:World):Ghost:={lim:=fun b=>match w.heap[b]? with|some (.cells c _ _)=>c.size|_=>0,nb:=0,μ:=fun _=>0,nt:=0,τ:=fun _=>0,ext:=fun _=>0,cap:=fun _=>0,tes:=fun _=>0,nl:=0,ln:=fun _=>0,mc:=fun _=>0,hole:=fun _=>false}
def Glob0(P:Program)(w:World):Prop:=∀s∈globSpec,∀g,P.globalNamed s.1=some g→∃cs e m,w.heap[g]?=some (.cells cs e m)∧s.2 cs
theorem glob0_none(h:(globSpec.map (fun s=>s.1)).all (fun s=>(P.globalNamed s).isNone)=true)(w:World):Glob0 P w:=fun s hs g hg=>by
 have:=List.all_eq_true.1 h s.1 (List.mem_map_of_mem hs)
 rw[hg]at this;cases this
theorem GW_heap(w:World)(hg:Glob0 P w):HRep P (GW w) w Heap.nil:=
 ⟨fun b hb=>by simp[GW,Array.getElem?_eq_none hb],rfl,rfl,rfl,fun k hk=>absurd hk (by simp[Heap.nil]),fun i j hi=>absurd hi.1 (by simp[GW]),fun k hk=>absurd hk.1 (by simp[GW]),fun t ht=>absurd ht (by simp[Heap.nil]),fun i j hi=>absurd hi (by simp[GW]),
  fun k t hk=>absurd hk.1 (by simp[GW]),fun l hl=>absurd hl (by simp[Heap.nil]),fun i j hi=>absurd hi (by simp[GW]),
  fun s hs g h=>by
   obtain⟨cs,e,m,h1,h2⟩:=hg s hs g h
   exact⟨⟨fun k hk=>absurd hk.1 (by simp[GW]),fun k hk=>absurd hk (by simp[GW]),fun k hk=>absurd hk (by simp[GW])⟩,cs,e,m,h1,h2⟩⟩
theorem GW_lim:∀a v,w.cell? a=some v→a.off<(GW w).lim a.block:=by
 intro a v h
 unfold World.cell? at h
 unfold GW
 simp only
 split at h
 ·rename_i c _ _ hc
  rw[hc]
  split at h
  ·cases h
  ·exact(Array.getElem?_eq_some_iff.1 h).1
 ·cases h
theorem step_below{G:Ghost}{w w':World}{G':Ghost}(h:Step G w G' w')(h1:G.nb=0)(h2:G.nt=0)(h3:G.nl=0):Below w.heap.size w w':=
 ⟨h.os,h.tape,h.output,h.size,fun k hk=>(h.frame k hk (fun i hi=>absurd hi.1 (by omega)) (fun i hi=>absurd hi (by omega)) (fun i hi=>absurd hi (by omega))).1⟩
theorem post_of_below{f:Func}{s:ChangeSpec}{apart fresh handsOn again:Bool}{W W':World}{args:Array Value}{v:Value}{ds gs:List (DataW H)}{before pa pv:List MemPlace}
 (hW:DataW.Whole enc P f.params.toList s.vars apart W args.toList ds gs before)
 (hres:∀(b:Nat)(sp:Nat→Bool)(hd:Bool),DataW.TrodAll enc P W' b sp hd f.resultTypes.toList (v.resultList f.resultTypes.size) (s.fn H (ds++gs)).results [])
 (hargs:∀sp:Nat→Bool,(∀p∈before,sp p.block=true)→DataW.TrodAll enc P W' 0 sp true f.params.toList args.toList (s.fn H (ds++gs)).args pa)
 (hvars:∀sp:Nat→Bool,(∀p∈before,sp p.block=true)→DataW.TrodVars enc P W' sp s.vars (s.fn H (ds++gs)).vars pv)
 (hps:before=pa++pv)(hb:Below W.heap.size W W')
 (hok:∀(j:Nat)(t:TypeId)(r:Value),f.resultTypes[j]?=some t→(v.resultList f.resultTypes.size)[j]?=some r→Value.okWide P W' .any 0 t r):
 s.post enc P f apart fresh handsOn again W args v W':=by
 have hlt:∀p∈before,p.block<W.heap.size:=fun p hp=>hW.lt p hp
 have hold:∀p∈before,(fun b=>decide (b<W.heap.size)) p.block=true:=fun p hp=>by simpa using hlt p hp
 refine⟨ds,gs,before,[],pa,pv,hW,hres _ _ _,hargs _ hold,hvars _ hold,World.keptBut_mono (fun p hp=>⟨hp,?_⟩) (hb.frame (·∈before)),fun _=> ?_⟩
 ·rw[hps,List.mem_append]at hp
  exact Or.inr hp
 ·obtain⟨_,_,_,_,_,hz,hn⟩:=hW
  refine⟨hok,_,_,([]++pa)++pv,⟨[]++pa,pv,trodAll_append (hargs _ (fun _ _=>rfl)) (hres _ _ _),hvars _ (fun _ _=>rfl),rfl,?_,?_⟩,?_⟩
  ·intro b off hp
   have hin:MemPlace.cell b off∈before:=by rw[hps];simpa using hp
   rw[hb.frozen (hlt _ hin)]
   exact hz b off hin
  ·intro ha
   have:=hn ha
   rw[hps]at this
   simpa using this
  ·intro p hp _
   rw[hps]
   simpa using hp
end
section
variable{P:Program}{k:Nat}{t:TypeId}{x:AV}{xs:List AV}
theorem ty_bool(hu:P.underlying t=some .bool)(h:Ty P (k+1) t xs):∃b,xs=[.bool b]:=by unfold Ty at h;rw[hu]at h;exact h
theorem ty_int{q:IntKind}(hu:P.underlying t=some (.int q))(h:Ty P (k+1) t xs):∃m,xs=[.int q m]∧(Lit.int q m).wf=true:=by unfold Ty at h;rw[hu]at h;exact h
theorem ty_float(hu:P.underlying t=some (.float .f64))(h:Ty P (k+1) t xs):∃b,xs=[fltOf b]∧(Lit.float .f64 b).wf=true:=by unfold Ty at h;rw[hu]at h;exact h
theorem ty_string(hu:P.underlying t=some .string)(h:Ty P (k+1) t xs):∃s,xs=[.str s]∧s.length≤9223372036854775807:=by unfold Ty at h;rw[hu]at h;exact h
theorem ty_sliceZ{e:TypeId}(hu:P.underlying t=some (.slice e))(h:Ty P (k+1) t xs):∃l:List AV,xs=[.sl .sh l]∧(l.length≤9223372036854775807∧∀x∈l,TyV P k e x)∧l.length*P.bytesOf e≤reachBytes:=by unfold Ty at h;rw[hu]at h;exact h
theorem ty_slice{e:TypeId}(hu:P.underlying t=some (.slice e))(h:Ty P (k+1) t xs):∃l:List AV,xs=[.sl .sh l]∧l.length≤9223372036854775807∧∀x∈l,TyV P k e x:=by
 obtain⟨l,h1,h2,-⟩:=ty_sliceZ hu h
 exact⟨l,h1,h2⟩
theorem ty_struct{fs:Array Field}(hu:P.underlying t=some (.struct fs))(h:Ty P (k+1) t xs):Tys (Ty P k) fs.toList xs:=by unfold Ty at h;rw[hu]at h;exact h
theorem tyv_int{q:IntKind}(hu:P.underlying t=some (.int q))(h:TyV P (k+1) t x):∃m,x=.int q m∧(Lit.int q m).wf=true:=by
 unfold TyV isAgg at h;rw[hu]at h
 obtain⟨b,e,hw⟩:=ty_int hu h
 exact⟨b,by simpa using e,hw⟩
theorem tyv_float(hu:P.underlying t=some (.float .f64))(h:TyV P (k+1) t x):∃b,x=fltOf b∧(Lit.float .f64 b).wf=true:=by
 unfold TyV isAgg at h;rw[hu]at h
 obtain⟨b,e,hw⟩:=ty_float hu h
 exact⟨b,by simpa using e,hw⟩
theorem tyv_struct{fs:Array Field}(hu:P.underlying t=some (.struct fs))(h:TyV P (k+1) t x):∃cs,x=.agg cs∧Tys (Ty P k) fs.toList cs:=by
 unfold TyV isAgg at h;rw[hu]at h
 obtain⟨cs,e,hw⟩:=h
 exact⟨cs,e,ty_struct hu hw⟩
theorem tyall_4{a b c d:TypeId}(h:TyAll P k [a,b,c,d] xs):∃x y z u,xs=[x,y,z,u]∧TyV P k a x∧TyV P k b y∧TyV P k c z∧TyV P k d u:=by
 match xs,h with
 |[x,y,z,u],⟨h,h2,h3,h4,_⟩=>exact⟨x,y,z,u,rfl,h,h2,h3,h4⟩
end
end Go.Aa
set_option linter.unusedVariables false
set_option linter.unusedSimpArgs false
namespace Go.Aa
open Go.RowKit
variable{P:Program}{G G':Ghost}{w w2 w3:World}{H H':Heap}
def Free(G:Ghost)(b:Nat):Prop:=G.lim b=0∧(∀k,G.on k→b≠G.μ k)∧(∀t,t<G.nt→b≠G.τ t)∧(∀k,k<G.nl→b≠G.ln k)
theorem free_new(hH:HRep P G w H):Free G w.heap.size:=
 ⟨hH.base _ (Nat.le_refl _),fun k hk e=>by have:=hH.μlt hk;omega,fun t ht e=>by
   obtain⟨_,us,u,h,_⟩:=hH.tok t (by rw[←hH.nt];exact ht)
   rw[←e]at h
   exact absurd (Array.getElem?_eq_some_iff.1 h).1 (by omega),
  fun l hl e=>by
   obtain⟨rec,h,_⟩:=hH.loop l (by rw[←hH.nl];exact hl)
   rw[←e]at h
   exact absurd (Array.getElem?_eq_some_iff.1 h).1 (by omega)⟩
theorem lay_step(hH:HRep P G w H)(o:Obj):Step G w G (w.alloc o)∧HRep P G (w.alloc o) H:=by
 have hheap:∀b,b<w.heap.size→(w.alloc o).heap[b]?=w.heap[b]?:=fun b hb=>Below.heap_alloc w o b hb
 have hsz:(w.alloc o).heap.size=w.heap.size+1:=by simp
 have hcell:∀b off,off<G.lim b→(w.alloc o).cell? ⟨b,off,none⟩=w.cell? ⟨b,off,none⟩:=fun b off h=>by
  have hb:b<w.heap.size:=by
   rcases Nat.lt_or_ge b w.heap.size with h1|h1
   ·exact h1
   ·rw[hH.base b h1]at h;omega
  unfold World.cell?
  rw[hheap b hb]
 have hst:Step G w G (w.alloc o):=
  ⟨rfl,rfl,rfl,by omega,fun _=>Nat.le_refl _,hcell,Nat.le_refl _,fun _ _=>rfl,fun _ _=>rfl,fun k h=>.inl ⟨k,h,rfl⟩,fun _ _=>rfl,Nat.le_refl _,fun _ _=>Nat.le_refl _,
   fun _ _ _=>⟨rfl,rfl⟩,fun _ _=>rfl,fun _ h=>.inl ⟨h,rfl⟩,Nat.le_refl _,fun _ _=>rfl,fun _ h1 h2=>absurd h2 (by omega),fun b hb _ _ _=>⟨hheap b hb,rfl⟩⟩
 refine⟨hst,fun b hb=>hH.base b (by omega),hH.nb,hH.nt,hH.nl,fun k hk hh=> ?_,hH.μinj,hH.μlim,fun t ht=> ?_,hH.τinj,hH.μτ,fun l hl=> ?_,hH.linj,hH.glob.step hst⟩
 ·obtain⟨us,e,h,h1,h2⟩:=hH.box k hk hh
  exact⟨us,e,by rw[hheap _ (Array.getElem?_eq_some_iff.1 h).1];exact h,h1,fun i i1 i2=>(h2 i i1 i2).step hst⟩
 ·obtain⟨h0,us,e,h,h1⟩:=hH.tok t ht
  exact⟨h0,us,e,by rw[hheap _ (Array.getElem?_eq_some_iff.1 h).1];exact h,h1⟩
 ·obtain⟨rec,h,h1⟩:=hH.loop l hl
  exact⟨rec,by rw[hheap _ (Array.getElem?_eq_some_iff.1 h).1];exact h,h1.keep hst.keep⟩
theorem free_step{b:Nat}(hf:Free G b)(hb:b<w.heap.size)(hst:Step G w G' w2)(hlt:∀t,t<G.nt→G.τ t<w.heap.size):Free G' b∧w2.heap[b]?=w.heap[b]?:=by
 obtain⟨h0,h1,h2,h3⟩:=hf
 obtain⟨f1,f2⟩:=hst.frame b hb h1 h2 h3
 refine⟨⟨by rw[f2];exact h0,fun k hk e=> ?_,fun t ht e=> ?_,fun l hl e=> ?_⟩,f1⟩
 ·rcases hst.μnew k hk with⟨j,hj,e2⟩|h
  ·exact h1 j hj (e.trans e2)
  ·omega
 ·rcases hst.τnew t ht with⟨ht',e'⟩|h
  ·rw[e']at e;exact h2 t ht' e
  ·omega
 ·rcases Nat.lt_or_ge l G.nl with hl'|hl'
  ·rw[hst.ln l hl']at e;exact h3 l hl' e
  ·have:=hst.lnew l hl' hl;omega
theorem poke{b:Nat}(hf:Free G' b)(hbase:Base G w)(hb:w.heap.size≤b)(hst:Step G w G' w2)(hH2:HRep P G' w2 H')(hother:∀k,k≠b→w3.heap[k]?=w2.heap[k]?)(hsz:w3.heap.size=w2.heap.size)
 (hgl:Glob P G w)
 (hos:w3.os=w2.os)(htape:w3.tape=w2.tape)(hout:w3.output=w2.output):Step G w G' w3∧HRep P G' w3 H':=by
 obtain⟨h0,h1,h2,h3⟩:=hf
 have hkeep:Keep G' w2 G' w3:=
  ⟨fun _=>Nat.le_refl _,fun c off h=>by
    have:c≠b:=fun e=>by subst e;omega
    unfold World.cell?
    rw[hother c this],Nat.le_refl _,fun _ h=>h,fun _ _=>rfl,Nat.le_refl _,fun _ _=>Nat.le_refl _,fun _ _ _=>⟨rfl,rfl⟩,fun _ _=>rfl,Nat.le_refl _,fun _ _=>rfl,fun _ _=>rfl⟩
 refine⟨⟨hos.trans hst.os,htape.trans hst.tape,hout.trans hst.output,by rw[hsz];exact hst.size,hst.lim,fun c off h=> ?_,hst.nb,hst.hole,hst.μ,hst.μnew,hst.mc,hst.nt,hst.ext,hst.τ,hst.tes,hst.τnew,hst.nl,hst.ln,hst.lnew,fun c hc a1 a2 a3=> ?_⟩,
  fun c hc=>hH2.base c (by omega),hH2.nb,hH2.nt,hH2.nl,fun k hk hh=> ?_,hH2.μinj,hH2.μlim,fun t ht=> ?_,hH2.τinj,hH2.μτ,fun l hl=> ?_,hH2.linj,fun sp hs g hg=>by
   obtain⟨g1,cs,e,m,g4,g5⟩:=hH2.glob sp hs g hg
   obtain⟨_,_,_,_,q4,_⟩:=hgl sp hs g hg
   have:=(Array.getElem?_eq_some_iff.1 q4).1
   exact⟨g1,cs,e,m,by rw[hother g (by omega)];exact g4,g5⟩⟩
 ·rw[←hst.cell c off h]
  exact hkeep.cell c off (Nat.lt_of_lt_of_le h (hst.lim c))
 ·obtain⟨e1,e2⟩:=hst.frame c hc a1 a2 a3
  exact⟨by rw[hother c (by omega)];exact e1,e2⟩
 ·obtain⟨us,e,h,g1,g2⟩:=hH2.box k hk hh
  exact⟨us,e,by rw[hother _ (Ne.symm (h1 k ⟨by rw[hH2.nb];exact hk,hh⟩))];exact h,g1,fun i i1 i2=>(g2 i i1 i2).keep hkeep⟩
 ·obtain⟨g0,us,e,h,g1⟩:=hH2.tok t ht
  exact⟨g0,us,e,by rw[hother _ (Ne.symm (h2 t (by rw[hH2.nt];exact ht)))];exact h,g1⟩
 ·obtain⟨rec,h,g1⟩:=hH2.loop l hl
  exact⟨rec,by rw[hother _ (Ne.symm (h3 l (by rw[hH2.nl];exact hl)))];exact h,g1.keep hkeep⟩
theorem tok_lt(hH:HRep P G w H):∀t,t<G.nt→G.τ t<w.heap.size:=fun t ht=>by
 obtain⟨_,us,u,h,_⟩:=hH.tok t (by rw[←hH.nt];exact ht)
 exact(Array.getElem?_eq_some_iff.1 h).1
end Go.Aa
set_option linter.unusedVariables false
set_option linter.unusedSimpArgs false
namespace Go.Aa
open Go.RowKit
variable{P:Program}{G:Ghost}{w w':World}{H:Heap}
theorem below_step(hH:HRep P G w H)(hB:Below w.heap.size w w'):Step G w G w'∧HRep P G w' H:=by
 have hheap:∀b,b<w.heap.size→w'.heap[b]?=w.heap[b]?:=fun b hb=>hB.block b hb
 have hcell:∀b off,off<G.lim b→w'.cell? ⟨b,off,none⟩=w.cell? ⟨b,off,none⟩:=fun b off h=>by
  have hb:b<w.heap.size:=by
   rcases Nat.lt_or_ge b w.heap.size with h1|h1
   ·exact h1
   ·rw[hH.base b h1]at h;omega
  unfold World.cell?
  rw[hheap b hb]
 have hst:Step G w G w':=
  ⟨hB.os,hB.tape,hB.output,hB.size,fun _=>Nat.le_refl _,hcell,Nat.le_refl _,fun _ _=>rfl,fun _ _=>rfl,fun k h=>.inl ⟨k,h,rfl⟩,fun _ _=>rfl,Nat.le_refl _,fun _ _=>Nat.le_refl _,
   fun _ _ _=>⟨rfl,rfl⟩,fun _ _=>rfl,fun _ h=>.inl ⟨h,rfl⟩,Nat.le_refl _,fun _ _=>rfl,fun _ h1 h2=>absurd h2 (by omega),fun b hb _ _ _=>⟨hheap b hb,rfl⟩⟩
 refine⟨hst,fun b hb=>hH.base b (by have:=hB.size;omega),hH.nb,hH.nt,hH.nl,fun k hk hh=> ?_,hH.μinj,hH.μlim,fun t ht=> ?_,hH.τinj,hH.μτ,fun l hl=> ?_,hH.linj,hH.glob.step hst⟩
 ·obtain⟨us,e,h,h1,h2⟩:=hH.box k hk hh
  exact⟨us,e,by rw[hheap _ (Array.getElem?_eq_some_iff.1 h).1];exact h,h1,fun i i1 i2=>(h2 i i1 i2).step hst⟩
 ·obtain⟨h0,us,e,h,h1⟩:=hH.tok t ht
  exact⟨h0,us,e,by rw[hheap _ (Array.getElem?_eq_some_iff.1 h).1];exact h,h1⟩
 ·obtain⟨rec,h,h1⟩:=hH.loop l hl
  exact⟨rec,by rw[hheap _ (Array.getElem?_eq_some_iff.1 h).1];exact h,h1.keep hst.keep⟩
theorem args_two{vs:Array Value}{x y:AV}(h:Args G w vs [x,y]):∃u v,vs= #[u,v]∧Rep G w u x∧Rep G w v y:=by
 obtain⟨h1,h2⟩:=h
 have hs:vs.size=2:=by simpa using h1
 refine⟨vs[0],vs[1],?_,by simpa using h2 0 (by omega) (by simp),by simpa using h2 1 (by omega) (by simp)⟩
 apply Array.ext
 ·simpa using hs
 ·intro i i1 i2
  have:i=0∨i=1:=by omega
  rcases this with rfl|rfl<;>rfl
theorem str_inv{v:Value}{s:List UInt8}(h:Rep G w v (.str s)):v=.string ⟨s.toArray⟩:=by cases h;rfl
def Enters(P:Program)(f:FuncId):Prop:=∀vs w,(callFunc f vs).run P w=.ok (.enter f vs) w
def indexE(xs:List AV)(H:Heap):Option (AV×Heap):=match xs with
 |[.str s,.str [c]]=>some (.int .i64 (Lib.indexByte s c),H)
 |_=>none
def countE(xs:List AV)(H:Heap):Option (AV×Heap):=match xs with
 |[.str s,.str [c]]=>some (.int .i64 (Lib.countByte s c),H)
 |_=>none
def trimE(xs:List AV)(H:Heap):Option (AV×Heap):=match xs with
 |[.str s,.str cs]=>if s.length≤9223372036854775807∧cs.length<4294967281∧cs.all (fun b=>decide (b.toNat<128))=true then some (.str (Lib.trimS s cs),H)else none
 |_=>none
def strsA:List AV→Option (List (List UInt8))
 |[]=>some []
 |.str s::xs=>(strsA xs).map (s::·)
 |_=>none
theorem ext_index{f:FuncId}(hf:Enters P f)(h:∀(s:ByteArray)(c:UInt8)(w:World),Calls P f #[.string s,.string ⟨#[c]⟩] w fun e w'=>e=.returned (.int .i64 (Lib.indexByte s.data.toList c))∧w'=w):ExtOk P f indexE:=by
 intro xs H v H' hg G w vs hH hargs
 unfold indexE at hg
 split at hg<;>simp only[Option.some.injEq,Prod.mk.injEq,reduceCtorEq]at hg
 rename_i s c
 obtain⟨rfl,rfl⟩:=hg
 obtain⟨u,u',rfl,h1,h2⟩:=args_two hargs
 cases str_inv h1
 cases str_inv h2
 refine .inl ⟨w,hf _ _,(h ⟨s.toArray⟩ c w).mono fun e w' hh=> ?_,rfl⟩
 obtain⟨rfl,rfl⟩:=hh
 exact⟨G,.refl _ _,hH,_,rfl,.int _ _⟩
theorem ext_count{f:FuncId}(hf:Enters P f)(h:∀(s:ByteArray)(c:UInt8)(w:World),Calls P f #[.string s,.string ⟨#[c]⟩] w fun e w'=>e=.returned (.int .i64 (Lib.countByte s.data.toList c))∧w'=w):ExtOk P f countE:=by
 intro xs H v H' hg G w vs hH hargs
 unfold countE at hg
 split at hg<;>simp only[Option.some.injEq,Prod.mk.injEq,reduceCtorEq]at hg
 rename_i s c
 obtain⟨rfl,rfl⟩:=hg
 obtain⟨u,u',rfl,h1,h2⟩:=args_two hargs
 cases str_inv h1
 cases str_inv h2
 refine .inl ⟨w,hf _ _,(h ⟨s.toArray⟩ c w).mono fun e w' hh=> ?_,rfl⟩
 obtain⟨rfl,rfl⟩:=hh
 exact⟨G,.refl _ _,hH,_,rfl,.int _ _⟩
theorem ext_trim{f:FuncId}(hf:Enters P f)(h:∀(s cutset:ByteArray)(w:World),s.size≤9223372036854775807→cutset.size<4294967281→(∀(j:Nat)(b:UInt8),cutset.data.toList[j]?=some b→b.toNat<128)→
 Calls P f #[.string s,.string cutset] w fun e w'=>e=.returned (.string ⟨(Lib.trimS s.data.toList cutset.data.toList).toArray⟩)∧Below w.heap.size w w'):ExtOk P f trimE:=by
 intro xs H v H' hg G w vs hH hargs
 unfold trimE at hg
 split at hg
 ·rename_i s cs
  split at hg<;>simp only[Option.some.injEq,Prod.mk.injEq,reduceCtorEq]at hg
  rename_i hc
  obtain⟨rfl,rfl⟩:=hg
  obtain⟨u,u',rfl,h1,h2⟩:=args_two hargs
  cases str_inv h1
  cases str_inv h2
  refine .inl ⟨w,hf _ _,(h ⟨s.toArray⟩ ⟨cs.toArray⟩ w hc.1 hc.2.1 fun j b hb=> ?_).mono fun e w' hh=> ?_,rfl⟩
  ·have:=List.all_eq_true.1 hc.2.2 b (List.mem_of_getElem? hb)
   simpa using this
  ·obtain⟨rfl,hB⟩:=hh
   obtain⟨s1,s2⟩:=below_step hH hB
   exact⟨G,s1,s2,_,rfl,.str _⟩
 ·cases hg
theorem strsA_inv:∀{l:List AV}{ss:List (List UInt8)},strsA l=some ss→l=ss.map .str
 |[],ss,h=>by simp only[strsA,Option.some.injEq]at h;subst h;rfl
 |x::l,ss,h=>by
  cases x with
  |str s=>
   simp only[strsA]at h
   cases hl:strsA l with
   |none=>rw[hl]at h;cases h
   |some ss'=>
    rw[hl]at h
    simp only[Option.map_some,Option.some.injEq]at h
    subst h
    rw[strsA_inv hl];rfl
  |_=>cases h
end Go.Aa
set_option linter.unusedVariables false
set_option linter.unusedSimpArgs false
namespace Go.Aa
open Go.RowKit
variable{P:Program}{G:Ghost}{w w':World}{H:Heap}
def insS(x:List UInt8):List (List UInt8)→List (List UInt8)
 |[]=>[x]
 |y::l=>bif Op.bytesLess y x then y::insS x l else x::y::l
def isort:List (List UInt8)→List (List UInt8)
 |[]=>[]
 |x::l=>insS x (isort l)
theorem insS_perm(x:List UInt8):∀l,(insS x l).Perm (x::l)
 |[]=>.refl _
 |y::l=>by
  unfold insS
  cases Op.bytesLess y x
  ·exact .refl _
  ·exact((insS_perm x l).cons y).trans (.swap x y l)
theorem isort_perm:∀l,(isort l).Perm l
 |[]=>.refl _
 |x::l=>(insS_perm x _).trans ((isort_perm l).cons x)
theorem le_less{x y:List UInt8}(h:Op.bytesLess y x=false):x≤y:=by
 rw[Go.Proofs.bytesLess_eq]at h
 simpa using h
theorem insS_sorted(x:List UInt8):∀{l:List (List UInt8)},l.Pairwise (·≤·)→(insS x l).Pairwise (·≤·)
 |[],_=>by simp[insS]
 |y::l,h=>by
  have h1:∀{z},z∈l→y≤z:=fun hz=>List.rel_of_pairwise_cons h hz
  have h2:=List.Pairwise.of_cons h
  unfold insS
  cases hb:Op.bytesLess y x with
  |false=>
   refine List.Pairwise.cons (fun z hz=> ?_) h
   rcases List.mem_cons.1 hz with rfl|hz
   ·exact le_less hb
   ·exact List.le_trans (le_less hb) (h1 hz)
  |true=>
   refine List.Pairwise.cons (fun z hz=> ?_) (insS_sorted x h2)
   rcases List.mem_cons.1 ((insS_perm x l).mem_iff.1 hz)with rfl|hz
   ·rw[Go.Proofs.bytesLess_eq,decide_eq_true_eq]at hb
    exact List.le_of_lt hb
   ·exact h1 hz
theorem isort_sorted:∀l,(isort l).Pairwise (·≤·)
 |[]=>.nil
 |x::l=>insS_sorted x (isort_sorted l)
theorem isort_eq(l:List (List UInt8)):(l.mergeSort fun x y=>decide (x≤y))=isort l:=by
 refine List.Perm.eq_of_pairwise (le:=fun a b=>a≤b) (fun a b _ _ h1 h2=>List.le_antisymm h1 h2) ?_ (isort_sorted l) ((List.mergeSort_perm l _).trans (isort_perm l).symm)
 have:=List.pairwise_mergeSort (le:=fun x y:List UInt8=>decide (x≤y)) (fun a b c h1 h2=>by simp only[decide_eq_true_eq]at*;exact List.le_trans h1 h2)
  (fun a b=>by simp only[Bool.or_eq_true,decide_eq_true_eq];exact List.le_total a b) l
 exact this.imp fun h=>by simpa using h
theorem isort_length(l:List (List UInt8)):(isort l).length=l.length:=(isort_perm l).length_eq
def sortE(xs:List AV)(H:Heap):Option (AV×Heap):=match xs with
 |[.msl k off n es]=>match H.boxes[k]? with
  |some cs=>if off=0∧es=1∧0<n∧n≤cs.length∧n≤140737488355328 then(match strsA (cs.take n)with
   |some ss=>some (.tuple [],{H with boxes:=H.boxes.set k ((isort ss).map .str++cs.drop n)})
   |none=>none)else none
  |none=>none
 |[.sl _ []]=>some (.tuple [],H)
 |_=>none
theorem args_1{vs:Array Value}{x:AV}(h:Args G w vs [x]):∃u,vs= #[u]∧Rep G w u x:=by
 obtain⟨h1,h2⟩:=h
 have hs:vs.size=1:=by simpa using h1
 refine⟨vs[0],?_,by simpa using h2 0 (by omega) (by simp)⟩
 apply Array.ext
 ·simpa using hs
 ·intro i i1 i2
  have:i=0:=by omega
  subst this;rfl
theorem box_turn{k:Nat}{cs xs:List AV}{us us':Array Value}{e:TypeId}{vs:List Value}(hH:HRep P G w H)(hk:G.on k)(hcs:H.boxes[k]?=some cs)(hne:cs≠[])(hb:w.heap[G.μ k]?=some (.cells us e (0,0)))
 (hle:xs.length≤cs.length)(hvr:ARep G w vs xs)(hcell:xs.all cellOk=true)(hus:us'.toList=vs++us.toList.drop vs.length)
 (h1:w'.os=w.os)(h2:w'.tape=w.tape)(h3:w'.output=w.output)(h4:w.heap.size≤w'.heap.size)(h5:w'.heap[G.μ k]?=some (.cells us' e (0,0)))(h6:∀b,b<w.heap.size→b≠G.μ k→w'.heap[b]?=w.heap[b]?):
 Step G w G w'∧HRep P G w' {H with boxes:=H.boxes.set k (xs++cs.drop xs.length)}:=by
 obtain⟨w1,hr,s1,s2⟩:=write_box (off:=0) hH hk hcs hne (by omega) hvr hcell
 obtain⟨hlt,hcs'⟩:=List.getElem?_eq_some_iff.1 hcs
 obtain⟨us0,e0,hb0,⟨hsz,hmc⟩,-⟩:=hH.box k hlt hk.2
 rw[hb]at hb0
 simp only[Option.some.injEq,Obj.cells.injEq]at hb0
 obtain⟨rfl,rfl,-⟩:=hb0
 rw[hcs']at hsz
 have hone:∀c∈vs,c.oneCell'=true:=by
  intro c hc
  obtain⟨i,hi,rfl⟩:=List.getElem_of_mem hc
  have hi2:i<xs.length:=by rw[←hvr.1];exact hi
  exact(hvr.2 i hi hi2).one (List.all_eq_true.1 hcell _ (List.getElem_mem hi2))
 have hrun:=run_storeCells_at P (G.μ k) 0 e vs 0 us w hb (by have:=hvr.1;omega) hone
 simp only[Nat.add_zero,List.take_zero,List.nil_append,Nat.zero_add]at hrun
 rw[hrun]at hr
 simp only[Result.ok.injEq,true_and]at hr
 rw[←hus,Array.toArray_toList]at hr
 have e1:paste cs 0 xs=xs++cs.drop xs.length:=by rw[paste_spec _ _ _ (by omega)];simp
 rw[e1]at s2
 have hB:Below w1.heap.size w1 w':=by
  rw[←hr]
  refine⟨h1,h2,h3,by simpa using h4,fun b hb'=> ?_⟩
  by_cases eb:b=G.μ k
  ·subst eb
   rw[h5]
   exact(setRow_heap w (G.μ k) us us' e (0,0) hb).symm
  ·rw[setRow_other _ _ _ _ eb]
   exact h6 b (by simpa using hb') eb
 obtain⟨t1,t2⟩:=below_step s2 hB
 exact⟨s1.trans t1,t2⟩
theorem ext_sort {f : FuncId} (hf : Enters P f)
 (h0 : ∀ (a : Option Addr) (c : Nat) (w : World), Calls P f #[.slice a 0 c] w fun e w' => e = .returned (.tuple #[]) ∧ w' = w)
 (h : ∀ (blk off cap : Nat) (ss : List (List UInt8)) (w : World), Sort.Holds Proofs.encStr w blk off ss.toArray → blk < w.heap.size → ss.length < 4611686018427387904 →
   Calls P f #[.slice (some ⟨blk, off, none⟩) ss.length cap] w fun e w' => e = .returned (.tuple #[]) ∧ ∃ n os, w' = Sort.grow (Sort.putRow Proofs.encStr (Sort.ahead w n) blk off (ss.mergeSort fun x y => decide (x ≤ y)).toArray) os) : ExtOk P f sortE := by
 intro az H v H' hg G w vs hH hargs
 unfold sortE at hg
 split at hg
 · rename_i k off n es
   split at hg
   · rename_i cs hcs
     split at hg
     · rename_i hc
       obtain ⟨rfl, rfl, hn0, hn, hbig⟩ := hc
       split at hg
       · rename_i ss hss
         simp only [Option.some.injEq, Prod.mk.injEq] at hg
         obtain ⟨rfl, rfl⟩ := hg
         obtain ⟨u, rfl, hr⟩ := args_1 hargs
         cases hr with
         | msl _ _ _ c _ hk hnc hcm he0 hcap =>
         obtain ⟨hlt, hcs'⟩ := List.getElem?_eq_some_iff.1 hcs
         obtain ⟨us, e, hb, ⟨hsz, hmc⟩, hrep⟩ := hH.box k hlt hk.2
         rw [hcs'] at hsz hrep
         have hl := strsA_inv hss
         have hsl : ss.length = n := by
          have := congrArg List.length hl
          simp only [List.length_take, List.length_map] at this
          omega
         have hat : ∀ j (hj : j < ss.length), us[j]? = some (.string ⟨(ss[j]).toArray⟩) := fun j hj => by
          have h1 : (cs.take n)[j]? = some (.str ss[j]) := by rw [hl, List.getElem?_map, List.getElem?_eq_getElem hj]; rfl
          rw [List.getElem?_take, if_pos (by omega)] at h1
          obtain ⟨h2, h3⟩ := List.getElem?_eq_some_iff.1 h1
          have := hrep j (by omega) h2
          rw [h3] at this
          rw [Array.getElem?_eq_getElem (by omega), str_inv this]
         have hHo : Sort.Holds Proofs.encStr w (G.μ k) 0 ss.toArray := fun j hj => by
          have hj' : j < ss.length := by simpa using hj
          have h1 := hat j hj'
          constructor
          · simp only [World.cell?, hb, Option.isSome_none, Bool.false_eq_true, if_false, Nat.zero_add]
            rw [h1, getElem!_pos ss.toArray j hj]
            simp [Proofs.encStr]
          · simp [World.frozen?, hb]
         have hcall := h (G.μ k) 0 c ss w hHo (Array.getElem?_eq_some_iff.1 hb).1 (by omega)
         rw [hsl] at hcall
         refine .inl ⟨w, hf _ _, hcall.mono fun e1 w' hh => ?_, rfl⟩
         obtain ⟨rfl, m, os, rfl⟩ := hh
         rw [isort_eq]
         have hil := isort_length ss
         have hone : ∀ j (hj : j < (isort ss).length), ((isort ss).toArray)[j]! = (isort ss)[j] := fun j hj => by
          rw [getElem!_pos (isort ss).toArray j (by simpa using hj)]; simp
         obtain ⟨s1, s2⟩ := box_turn (w' := Sort.grow (Sort.putRow Proofs.encStr (Sort.ahead w m) (G.μ k) 0 (isort ss).toArray) os) (xs := (isort ss).map .str) (vs := (isort ss).map fun s => Value.string ⟨s.toArray⟩)
          (us' := Sort.putCells Proofs.encStr 0 (isort ss).toArray us) hH hk hcs (by intro e; rw [e] at hn; simp at hn; omega) hb (by simp; omega)
          ⟨by simp, fun i i1 i2 => by simp only [List.getElem_map]; exact .str _⟩ (List.all_eq_true.2 fun x hx => by obtain ⟨s, -, rfl⟩ := List.mem_map.1 hx; rfl)
          (by
            apply List.ext_getElem?
            intro q
            simp only [Sort.putCells, Array.getElem?_toList, Array.getElem?_mapIdx, List.size_toArray, Nat.zero_le, true_and, Nat.zero_add, Nat.sub_zero]
            by_cases hq : q < (isort ss).length
            · rw [List.getElem?_append_left (by simpa using hq)]
              rw [Array.getElem?_eq_getElem (by omega)]
              simp only [Option.map_some, if_pos hq, hone q hq, List.getElem?_map, List.getElem?_eq_getElem hq]
            · rw [List.getElem?_append_right (by simpa using hq)]
              simp only [List.length_map, List.getElem?_drop, Array.getElem?_toList]
              rw [show (isort ss).length + (q - (isort ss).length) = q by omega]
              cases us[q]? with
              | none => rfl
              | some x => simp [hq])
          rfl rfl rfl (by simp [Sort.grow, Sort.putRow, Sort.mapBlock, Sort.ahead])
          (by
            have hlt2 : G.μ k < (Sort.putRow Proofs.encStr (Sort.ahead w m) (G.μ k) 0 (isort ss).toArray).heap.size := by simp [Sort.putRow, Sort.mapBlock, Sort.ahead]; exact (Array.getElem?_eq_some_iff.1 hb).1
            rw [Sort.heap_grow_old _ _ hlt2]
            simp only [Sort.putRow, Sort.mapBlock, Sort.ahead, Array.getElem?_modify, if_true, hb, Option.map_some, Sort.onCells])
          (fun b hb1 hb2 => by
            have hlt2 : b < (Sort.putRow Proofs.encStr (Sort.ahead w m) (G.μ k) 0 (isort ss).toArray).heap.size := by simp [Sort.putRow, Sort.mapBlock, Sort.ahead]; exact hb1
            rw [Sort.heap_grow_old _ _ hlt2]
            simp only [Sort.putRow, Sort.mapBlock, Sort.ahead, Array.getElem?_modify, if_neg (Ne.symm hb2)])
         refine ⟨G, s1, ?_, _, rfl, .tuple _ _ rfl (fun i h1 => absurd h1 (by simp))⟩
         rw [List.length_map, hil, hsl] at s2
         exact s2
       · cases hg
     · cases hg
   · cases hg
 · simp only [Option.some.injEq, Prod.mk.injEq] at hg
   obtain ⟨rfl, rfl⟩ := hg
   obtain ⟨u, rfl, hr⟩ := args_1 hargs
   cases hr with
   | sl0 a c =>
     refine .inl ⟨w, hf _ _, (h0 a c w).mono fun e1 w' hh => ?_, rfl⟩
     obtain ⟨rfl, rfl⟩ := hh
     exact ⟨G, .refl _ _, hH, _, rfl, .tuple _ _ rfl (fun i h1 => absurd h1 (by simp))⟩
   | sl _ _ _ _ _ _ hl => exact absurd rfl hl
 · cases hg
end Go.Aa
set_option linter.unusedVariables false
set_option linter.unusedSimpArgs false
namespace Go.Aa
def cloneE(es bytes:Nat)(xs:List AV)(H:Heap):Option (AV×Heap):=match xs with
 |[.sl k l]=>appendMA es bytes H (.sl .full []) (.sl k l)
 |_=>none
end Go.Aa
set_option linter.unusedVariables false
set_option linter.unusedSimpArgs false
namespace Go.Aa
open Go.RowKit
variable{P:Program}{G:Ghost}{w w':World}{H:Heap}
theorem args_one{az:AV}{vs:Array Value}(h:Args G w vs [az]):∃v,vs= #[v]∧Rep G w v az:=by
 obtain⟨hs,h2⟩:=h
 simp only[List.length_cons,List.length_nil]at hs
 refine⟨vs[0],?_,by simpa using h2 0 (by omega) (by simp)⟩
 apply Array.ext
 ·simpa using hs
 ·intro i i1 i2
  have:i=0:=by omega
  subst this;rfl
theorem int_inv{v:Value}{k:IntKind}{n:Int}(h:Rep G w v (.int k n)):v=.int k n:=by cases h;rfl
end Go.Aa
set_option linter.unusedVariables false
set_option linter.unusedSimpArgs false
namespace Go.Aa
open Go.RowKit Go.ChangeShapes Go.WideShapes Go.ChangeAt
section
variable{H:Type}{enc:TypeId×Value→H}{P:Program}{w:World}{base:Nat}{sp:Nat→Bool}{held:Bool}{G:Ghost}
theorem mapM_len{α β:Type}{f:α→Option β}:∀{l:List α}{r:List β},l.mapM f=some r→r.length=l.length
 |[],r,h=>by cases h;rfl
 |x::l,r,h=>by
  rw[List.mapM_cons]at h
  cases hx:f x with
  |none=>rw[hx]at h;cases h
  |some y=>
   cases hl:l.mapM f with
   |none=>rw[hx,hl]at h;cases h
   |some ys=>
    rw[hx,hl]at h
    cases h
    simp[mapM_len hl]
theorem slice_sz{t e:TypeId}{v:Value}{d:DataW H}{ps:List MemPlace}{l:List AV}{k:SK}(hu:P.underlying t=some (.slice e))(hr:Rep G w v (.sl k l))(ht:DataW.Trod enc P w base sp held t v d ps)
 (hw:(d.weights P t).all (·≤reachBytes)=true):l.length*P.bytesOf e≤reachBytes:=by
 cases hr with
 |sl0=>simp
 |sl a c _ _ es us hl hc hcm hs hes he0 hd hlim hcell hrep hfull hown=>
  obtain⟨fuel,h⟩:=ht
  cases fuel with
  |zero=>cases h
  |succ fuel=>
   simp only[DataW.trod,hu,Value.cells]at h
   split at h
   ·cases he:(List.range l.length).mapM (fun i=>(w.cells? base (a.add (i*P.cellsOf e)) (P.cellsOf e)).bind (DataW.trod enc P w base sp held fuel e))with
    |none=>rw[he]at h;cases h
    |some elems=>
     rw[he,Option.bind_some,Option.map_eq_some_iff]at h
     obtain⟨rest,-,h⟩:=h
     cases h
     have e1:elems.length=l.length:=by rw[mapM_len he,List.length_range]
     simp only[DataW.weights,hu,List.all_cons,Bool.and_eq_true,decide_eq_true_eq,List.length_map]at hw
     have:=hw.1
     rw[e1]at this
     exact Nat.le_trans (Nat.mul_le_mul_right _ (Nat.le_add_right _ _)) this
   ·cases h
theorem str_sz{t:TypeId}{v:Value}{d:DataW H}{ps:List MemPlace}{s:List UInt8}(hu:P.underlying t=some .string)(hr:Rep G w v (.str s))(ht:DataW.Trod enc P w base sp held t v d ps)
 (hw:(d.weights P t).all (·≤reachBytes)=true):s.length≤reachBytes:=by
 cases hr with
 |str s=>
  obtain⟨fuel,h⟩:=ht
  cases fuel with
  |zero=>cases h
  |succ fuel=>
   simp only[DataW.trod,hu,Value.cells]at h
   split at h
   ·cases h
    simpa[DataW.weights]using hw
   ·cases h
def Sz1(P:Program)(t:TypeId)(x:AV):Prop:=(∀e k l,P.underlying t=some (.slice e)→x=.sl k l→l.length*P.bytesOf e≤reachBytes)∧(∀s,P.underlying t=some .string→x=.str s→s.length≤reachBytes)
def SzAll(P:Program):List TypeId→List AV→Prop
 |t::ts,x::xs=>Sz1 P t x∧SzAll P ts xs
 |_,_=>True
theorem all_sz:∀{ts us:List TypeId}{vs:List Value}{ds gs:List (DataW H)}{ps:List MemPlace}{xs:List AV},DataW.TrodAll enc P w base sp held ts vs ds ps→(DataW.weightsEach P (ts++us) (ds++gs)).all (·≤reachBytes)=true→
 (∀(i:Nat)v y,vs[i]?=some v→xs[i]?=some y→Rep G w v y)→SzAll P ts xs
 |[],_,_,_,_,_,_,_,_,_=>by unfold SzAll;trivial
 |t::ts,us,[],ds,gs,ps,xs,h,_,_=>h.elim
 |t::ts,us,v::vs,[],gs,ps,xs,h,_,_=>h.elim
 |t::ts,us,v::vs,d::ds,gs,ps,[],_,_,_=>by unfold SzAll;trivial
 |t::ts,us,v::vs,d::ds,gs,ps,x::xs,⟨p,q,h1,h2,_⟩,hw,hr=>by
  simp only[List.cons_append,DataW.weightsEach,List.all_append,Bool.and_eq_true]at hw
  refine⟨⟨fun e k l hu hx=> ?_,fun s hu hx=> ?_⟩,all_sz h2 hw.2 (fun i v y a b=>hr (i+1) v y a b)⟩
  ·subst hx;exact slice_sz hu (hr 0 _ _ rfl rfl) h1 hw.1
  ·subst hx;exact str_sz hu (hr 0 _ _ rfl rfl) h1 hw.1
theorem weights_left:∀{ts us:List TypeId}{ds gs:List (DataW H)},(DataW.weightsEach P (ts++us) (ds++gs)).all (·≤reachBytes)=true→(DataW.weightsEach P ts ds).all (·≤reachBytes)=true
 |[],_,_,_,_=>by simp[DataW.weightsEach]
 |_::_,_,[],_,_=>by simp[DataW.weightsEach]
 |t::ts,us,d::ds,gs,h=>by
  simp only[List.cons_append,DataW.weightsEach,List.all_append,Bool.and_eq_true]at h⊢
  exact⟨h.1,weights_left h.2⟩
theorem law_rowZ{cfg:Cfg}(hcfg:CfgOk P cfg){f:FuncId}(hF:(cfg.F f).isSome=true)(hx:cfg.ext f=none)(ht:cfg.tryF f=false){fn:Func}{s:ChangeSpec}{k:Nat}{tb:TypeId}{apart fresh handsOn again:Bool}
 (hpl:fn.params.toList.all (plainT P k)=true)(hrt:fn.resultTypes= #[tb])(hb:P.underlying tb=some .bool)(hsv:s.vars=[])
 (hfn:∀ds:List (DataW H),ds.length=fn.params.toList.length→s.fn H ds={results:=[.lit (.bool true)],args:=ds})
 (hlaw:∀xs,TyAll P k fn.params.toList xs→SzAll P fn.params.toList xs→∃H',lim cfg (.fn f) xs Heap.nil=some (.ret (.bool true),H'))
 {W:World}{base:Nat}{args:Array Value}{ds gs:List (DataW H)}{before:List MemPlace}
 (hval:∀(j:Nat)t v,fn.params[j]?=some t→args[j]?=some v→Value.okWide P W .any base t v)
 (hW:DataW.Whole enc P fn.params.toList s.vars apart W args.toList ds gs before)(hwt:(DataW.weightsEach P (fn.params.toList++s.plain.varTypes P) (ds++gs)).all (·≤reachBytes)=true)
 (hg:Glob0 P W:=by exact glob0_none (by kernel_rfl) W):
 Calls P f args W fun e W'=>∃v,e=.returned v∧s.post enc P fn apart fresh handsOn again W args v W':=by
 have hW':=hW
 obtain⟨p,q,hA,hV,rfl,hfz,hnd⟩:=hW
 rw[hsv]at hV
 obtain⟨rfl,rfl⟩:=trodVars_none hV
 rw[List.append_nil]at hW'
 obtain⟨xs,x1,x2,x3⟩:=all_rep (G:=GW W) GW_lim hpl (fun j t v a b=>hval j t v (by simpa using a) (by simpa using b)) hA (weights_left hwt)
 obtain⟨H',hl⟩:=hlaw xs x3 (all_sz hA hwt x2)
 obtain⟨n,hn⟩:=lim_iff.1 hl
 refine(calls_of hcfg hn hF hx ht (GW_heap W hg) ⟨by rw[x1];simp,fun i h1 h2=>x2 i _ _ (by simp[h1]) (List.getElem?_eq_getElem h2)⟩).mono fun e W'⟨u,G',he,hst,hr⟩=> ?_
 cases hr
 have hB:=step_below hst rfl rfl rfl
 obtain⟨l1,l2⟩:=all_len hA
 have hfn':=hfn ds l2
 refine⟨_,he,post_of_below (pa:=p) (pv:=[]) hW' ?_ ?_ ?_ (by simp) hB ?_⟩
 ·intro b sp hd
  rw[List.append_nil,hfn',hrt]
  exact trodAll_mk1 (shut_bool hb _)
 ·intro sp hsp
  rw[List.append_nil,hfn']
  exact all_shut hB hpl hsp hA
 ·intro sp hsp
  rw[List.append_nil,hfn',hsv]
  rfl
 ·exact ok_one hrt rfl (okWide_bool_mk hb _)
end
end Go.Aa
set_option linter.unusedVariables false
set_option linter.unusedSimpArgs false
namespace Go.Aa
end Go.Aa
set_option linter.unusedVariables false
set_option linter.unusedSimpArgs false
namespace Go.Aa
def bitsE(xs:List AV)(H:Heap):Option (AV×Heap):=match xs with
 |[.flt b]=>some (.int .u64 b,H)
 |_=>none
theorem ext_bits{P:Program}{f:FuncId}(h:∀(b:Nat)(w:World),(callFunc f #[.float .f64 b]).run P w=.ok (.value (.int .u64 b)) w):ExtOk P f bitsE:=by
 intro xs H v H' hg G w vs hH hargs
 unfold bitsE at hg
 split at hg
 ·rename_i b
  simp only[Option.some.injEq,Prod.mk.injEq]at hg
  obtain⟨rfl,rfl⟩:=hg
  obtain⟨u,rfl,hr⟩:=args_one hargs
  cases hr
  exact .inr ⟨_,w,h b w,G,.refl _ _,hH,_,rfl,.int _ _⟩
 ·cases hg
def frombitsE(xs:List AV)(H:Heap):Option (AV×Heap):=match xs with
 |[.int .u64 n]=>if 0≤n∧n<18446744073709551616 then some (fltOf n.toNat,H)else none
 |_=>none
theorem ext_frombits{P:Program}{f:FuncId}(h:∀(n:Int)(w:World),(callFunc f #[.int .u64 n]).run P w=.ok (.value (.float .f64 n.toNat)) w):ExtOk P f frombitsE:=by
 intro xs H v H' hg G w vs hH hargs
 unfold frombitsE at hg
 split at hg
 ·rename_i n
  split at hg
  ·simp only[Option.some.injEq,Prod.mk.injEq]at hg
   obtain⟨rfl,rfl⟩:=hg
   obtain⟨u,rfl,hr⟩:=args_one hargs
   cases int_inv hr
   exact .inr ⟨_,w,h n w,G,.refl _ _,hH,_,rfl,fltOf_rep _⟩
  ·cases hg
 ·cases hg
end Go.Aa
set_option linter.unusedVariables false
set_option maxRecDepth 100000
namespace Go.Aa.T
open Go.Aa
def extF:Nat→Option (List AV→Heap→Option (AV×Heap))
 |279=>some trimE
 |227=>some sortE
 |278=>some indexE
 |277=>some countE
 |152=>some (cloneE 11 184)
 |201=>some bitsE
 |258=>some frombitsE
 |_=>none
def isTry(f:Nat):Bool:=f==66
def cfg:Cfg:={F:=tabF,ext:=extF,tryF:=isTry,stopT:=211}
def okR:Option (ARes×Heap)→Bool
 |some (.ret (.bool b),_)=>b
 |_=>false
theorem known25:okR (callN cfg 3000 (.fn 25) [] Heap.nil)=true:=by kernel_rfl
theorem known_ret25:∃H',lim cfg (.fn 25) [] Heap.nil=some (.ret (.bool true),H'):=by
 have h:=known25
 unfold okR at h
 split at h
 ·rename_i b H' hc
  subst h
  exact⟨H',lim_of hc⟩
 ·cases h
theorem l6(xs:List AV)(H:Heap):lim cfg (.fn 6) xs H=runL cfg a6 [.c c6] (initEnv xs) H:=lim_fn rfl rfl rfl xs H
theorem l15(xs:List AV)(H:Heap):lim cfg (.fn 15) xs H=runL cfg a15 [.c c15] (initEnv xs) H:=lim_fn rfl rfl rfl xs H
theorem l16(xs:List AV)(H:Heap):lim cfg (.fn 16) xs H=runL cfg a16 [.c c16] (initEnv xs) H:=lim_fn rfl rfl rfl xs H
theorem l18(xs:List AV)(H:Heap):lim cfg (.fn 18) xs H=runL cfg a18 [.c c18] (initEnv xs) H:=lim_fn rfl rfl rfl xs H
theorem l24(xs:List AV)(H:Heap):lim cfg (.fn 24) xs H=runL cfg a24 [.c c24] (initEnv xs) H:=lim_fn rfl rfl rfl xs H
theorem l30(xs:List AV)(H:Heap):lim cfg (.fn 30) xs H=runL cfg a30 [.c c30] (initEnv xs) H:=lim_fn rfl rfl rfl xs H
theorem l32(xs:List AV)(H:Heap):lim cfg (.fn 32) xs H=runL cfg a32 [.c c32] (initEnv xs) H:=lim_fn rfl rfl rfl xs H
theorem l34(xs:List AV)(H:Heap):lim cfg (.fn 34) xs H=runL cfg a34 [.c c34] (initEnv xs) H:=lim_fn rfl rfl rfl xs H
theorem l48(xs:List AV)(H:Heap):lim cfg (.fn 48) xs H=runL cfg a48 [.c c48] (initEnv xs) H:=lim_fn rfl rfl rfl xs H
theorem l49(xs:List AV)(H:Heap):lim cfg (.fn 49) xs H=runL cfg a49 [.c c49] (initEnv xs) H:=lim_fn rfl rfl rfl xs H
theorem l50(xs:List AV)(H:Heap):lim cfg (.fn 50) xs H=runL cfg a50 [.c c50] (initEnv xs) H:=lim_fn rfl rfl rfl xs H
theorem l51(xs:List AV)(H:Heap):lim cfg (.fn 51) xs H=runL cfg a51 [.c c51] (initEnv xs) H:=lim_fn rfl rfl rfl xs H
theorem l52(xs:List AV)(H:Heap):lim cfg (.fn 52) xs H=runL cfg a52 [.c c52] (initEnv xs) H:=lim_fn rfl rfl rfl xs H
theorem l53(xs:List AV)(H:Heap):lim cfg (.fn 53) xs H=runL cfg a53 [.c c53] (initEnv xs) H:=lim_fn rfl rfl rfl xs H
theorem l54(xs:List AV)(H:Heap):lim cfg (.fn 54) xs H=runL cfg a54 [.c c54] (initEnv xs) H:=lim_fn rfl rfl rfl xs H
theorem l55(xs:List AV)(H:Heap):lim cfg (.fn 55) xs H=runL cfg a55 [.c c55] (initEnv xs) H:=lim_fn rfl rfl rfl xs H
theorem l56(xs:List AV)(H:Heap):lim cfg (.fn 56) xs H=runL cfg a56 [.c c56] (initEnv xs) H:=lim_fn rfl rfl rfl xs H
theorem l57(xs:List AV)(H:Heap):lim cfg (.fn 57) xs H=runL cfg a57 [.c c57] (initEnv xs) H:=lim_fn rfl rfl rfl xs H
theorem l58(xs:List AV)(H:Heap):lim cfg (.fn 58) xs H=runL cfg a58 [.c c58] (initEnv xs) H:=lim_fn rfl rfl rfl xs H
theorem l63(xs:List AV)(H:Heap):lim cfg (.fn 63) xs H=runL cfg a63 [.c c63] (initEnv xs) H:=lim_fn rfl rfl rfl xs H
theorem l64(xs:List AV)(H:Heap):lim cfg (.fn 64) xs H=runL cfg a64 [.c c64] (initEnv xs) H:=lim_fn rfl rfl rfl xs H
theorem l65(xs:List AV)(H:Heap):lim cfg (.fn 65) xs H=runL cfg a65 [.c c65] (initEnv xs) H:=lim_fn rfl rfl rfl xs H
theorem l68(xs:List AV)(H:Heap):lim cfg (.fn 68) xs H=runL cfg a68 [.c c68] (initEnv xs) H:=lim_fn rfl rfl rfl xs H
theorem l70(xs:List AV)(H:Heap):lim cfg (.fn 70) xs H=runL cfg a70 [.c c70] (initEnv xs) H:=lim_fn rfl rfl rfl xs H
theorem l73(xs:List AV)(H:Heap):lim cfg (.fn 73) xs H=runL cfg a73 [.c c73] (initEnv xs) H:=lim_fn rfl rfl rfl xs H
theorem l77(xs:List AV)(H:Heap):lim cfg (.fn 77) xs H=runL cfg a77 [.c c77] (initEnv xs) H:=lim_fn rfl rfl rfl xs H
theorem l78(xs:List AV)(H:Heap):lim cfg (.fn 78) xs H=runL cfg a78 [.c c78] (initEnv xs) H:=lim_fn rfl rfl rfl xs H
theorem l81(xs:List AV)(H:Heap):lim cfg (.fn 81) xs H=runL cfg a81 [.c c81] (initEnv xs) H:=lim_fn rfl rfl rfl xs H
theorem l84(xs:List AV)(H:Heap):lim cfg (.fn 84) xs H=runL cfg a84 [.c c84] (initEnv xs) H:=lim_fn rfl rfl rfl xs H
theorem l85(xs:List AV)(H:Heap):lim cfg (.fn 85) xs H=runL cfg a85 [.c c85] (initEnv xs) H:=lim_fn rfl rfl rfl xs H
theorem l108(xs:List AV)(H:Heap):lim cfg (.fn 108) xs H=runL cfg a108 [.c c108] (initEnv xs) H:=lim_fn rfl rfl rfl xs H
theorem l109(xs:List AV)(H:Heap):lim cfg (.fn 109) xs H=runL cfg a109 [.c c109] (initEnv xs) H:=lim_fn rfl rfl rfl xs H
theorem l112(xs:List AV)(H:Heap):lim cfg (.fn 112) xs H=runL cfg a112 [.c c112] (initEnv xs) H:=lim_fn rfl rfl rfl xs H
theorem l113(xs:List AV)(H:Heap):lim cfg (.fn 113) xs H=runL cfg a113 [.c c113] (initEnv xs) H:=lim_fn rfl rfl rfl xs H
theorem l114(xs:List AV)(H:Heap):lim cfg (.fn 114) xs H=runL cfg a114 [.c c114] (initEnv xs) H:=lim_fn rfl rfl rfl xs H
theorem l115(xs:List AV)(H:Heap):lim cfg (.fn 115) xs H=runL cfg a115 [.c c115] (initEnv xs) H:=lim_fn rfl rfl rfl xs H
theorem l116(xs:List AV)(H:Heap):lim cfg (.fn 116) xs H=runL cfg a116 [.c c116] (initEnv xs) H:=lim_fn rfl rfl rfl xs H
theorem l117(xs:List AV)(H:Heap):lim cfg (.fn 117) xs H=runL cfg a117 [.c c117] (initEnv xs) H:=lim_fn rfl rfl rfl xs H
theorem l118(xs:List AV)(H:Heap):lim cfg (.fn 118) xs H=runL cfg a118 [.c c118] (initEnv xs) H:=lim_fn rfl rfl rfl xs H
theorem l119(xs:List AV)(H:Heap):lim cfg (.fn 119) xs H=runL cfg a119 [.c c119] (initEnv xs) H:=lim_fn rfl rfl rfl xs H
theorem l120(xs:List AV)(H:Heap):lim cfg (.fn 120) xs H=runL cfg a120 [.c c120] (initEnv xs) H:=lim_fn rfl rfl rfl xs H
theorem l121(xs:List AV)(H:Heap):lim cfg (.fn 121) xs H=runL cfg a121 [.c c121] (initEnv xs) H:=lim_fn rfl rfl rfl xs H
theorem l122(xs:List AV)(H:Heap):lim cfg (.fn 122) xs H=runL cfg a122 [.c c122] (initEnv xs) H:=lim_fn rfl rfl rfl xs H
theorem l123(xs:List AV)(H:Heap):lim cfg (.fn 123) xs H=runL cfg a123 [.c c123] (initEnv xs) H:=lim_fn rfl rfl rfl xs H
theorem l124(xs:List AV)(H:Heap):lim cfg (.fn 124) xs H=runL cfg a124 [.c c124] (initEnv xs) H:=lim_fn rfl rfl rfl xs H
theorem l125(xs:List AV)(H:Heap):lim cfg (.fn 125) xs H=runL cfg a125 [.c c125] (initEnv xs) H:=lim_fn rfl rfl rfl xs H
theorem l126(xs:List AV)(H:Heap):lim cfg (.fn 126) xs H=runL cfg a126 [.c c126] (initEnv xs) H:=lim_fn rfl rfl rfl xs H
theorem l127(xs:List AV)(H:Heap):lim cfg (.fn 127) xs H=runL cfg a127 [.c c127] (initEnv xs) H:=lim_fn rfl rfl rfl xs H
theorem l132(xs:List AV)(H:Heap):lim cfg (.fn 132) xs H=runL cfg a132 [.c c132] (initEnv xs) H:=lim_fn rfl rfl rfl xs H
theorem l133(xs:List AV)(H:Heap):lim cfg (.fn 133) xs H=runL cfg a133 [.c c133] (initEnv xs) H:=lim_fn rfl rfl rfl xs H
theorem l136(xs:List AV)(H:Heap):lim cfg (.fn 136) xs H=runL cfg a136 [.c c136] (initEnv xs) H:=lim_fn rfl rfl rfl xs H
theorem l137(xs:List AV)(H:Heap):lim cfg (.fn 137) xs H=runL cfg a137 [.c c137] (initEnv xs) H:=lim_fn rfl rfl rfl xs H
theorem l138(xs:List AV)(H:Heap):lim cfg (.fn 138) xs H=runL cfg a138 [.c c138] (initEnv xs) H:=lim_fn rfl rfl rfl xs H
theorem l139(xs:List AV)(H:Heap):lim cfg (.fn 139) xs H=runL cfg a139 [.c c139] (initEnv xs) H:=lim_fn rfl rfl rfl xs H
theorem l140(xs:List AV)(H:Heap):lim cfg (.fn 140) xs H=runL cfg a140 [.c c140] (initEnv xs) H:=lim_fn rfl rfl rfl xs H
theorem l141(xs:List AV)(H:Heap):lim cfg (.fn 141) xs H=runL cfg a141 [.c c141] (initEnv xs) H:=lim_fn rfl rfl rfl xs H
theorem l142(xs:List AV)(H:Heap):lim cfg (.fn 142) xs H=runL cfg a142 [.c c142] (initEnv xs) H:=lim_fn rfl rfl rfl xs H
theorem l143(xs:List AV)(H:Heap):lim cfg (.fn 143) xs H=runL cfg a143 [.c c143] (initEnv xs) H:=lim_fn rfl rfl rfl xs H
theorem l144(xs:List AV)(H:Heap):lim cfg (.fn 144) xs H=runL cfg a144 [.c c144] (initEnv xs) H:=lim_fn rfl rfl rfl xs H
theorem l145(xs:List AV)(H:Heap):lim cfg (.fn 145) xs H=runL cfg a145 [.c c145] (initEnv xs) H:=lim_fn rfl rfl rfl xs H
theorem l146(xs:List AV)(H:Heap):lim cfg (.fn 146) xs H=runL cfg a146 [.c c146] (initEnv xs) H:=lim_fn rfl rfl rfl xs H
theorem l147(xs:List AV)(H:Heap):lim cfg (.fn 147) xs H=runL cfg a147 [.c c147] (initEnv xs) H:=lim_fn rfl rfl rfl xs H
theorem l150(xs:List AV)(H:Heap):lim cfg (.fn 150) xs H=runL cfg a150 [.c c150] (initEnv xs) H:=lim_fn rfl rfl rfl xs H
theorem l157(xs:List AV)(H:Heap):lim cfg (.fn 157) xs H=runL cfg a157 [.c c157] (initEnv xs) H:=lim_fn rfl rfl rfl xs H
theorem l158(xs:List AV)(H:Heap):lim cfg (.fn 158) xs H=runL cfg a158 [.c c158] (initEnv xs) H:=lim_fn rfl rfl rfl xs H
theorem l159(xs:List AV)(H:Heap):lim cfg (.fn 159) xs H=runL cfg a159 [.c c159] (initEnv xs) H:=lim_fn rfl rfl rfl xs H
theorem l160(xs:List AV)(H:Heap):lim cfg (.fn 160) xs H=runL cfg a160 [.c c160] (initEnv xs) H:=lim_fn rfl rfl rfl xs H
theorem l161(xs:List AV)(H:Heap):lim cfg (.fn 161) xs H=runL cfg a161 [.c c161] (initEnv xs) H:=lim_fn rfl rfl rfl xs H
theorem l165(xs:List AV)(H:Heap):lim cfg (.fn 165) xs H=runL cfg a165 [.c c165] (initEnv xs) H:=lim_fn rfl rfl rfl xs H
theorem l192(xs:List AV)(H:Heap):lim cfg (.fn 192) xs H=runL cfg a192 [.c c192] (initEnv xs) H:=lim_fn rfl rfl rfl xs H
theorem l193(xs:List AV)(H:Heap):lim cfg (.fn 193) xs H=runL cfg a193 [.c c193] (initEnv xs) H:=lim_fn rfl rfl rfl xs H
theorem l196(xs:List AV)(H:Heap):lim cfg (.fn 196) xs H=runL cfg a196 [.c c196] (initEnv xs) H:=lim_fn rfl rfl rfl xs H
theorem l197(xs:List AV)(H:Heap):lim cfg (.fn 197) xs H=runL cfg a197 [.c c197] (initEnv xs) H:=lim_fn rfl rfl rfl xs H
theorem l198(xs:List AV)(H:Heap):lim cfg (.fn 198) xs H=runL cfg a198 [.c c198] (initEnv xs) H:=lim_fn rfl rfl rfl xs H
theorem l199(xs:List AV)(H:Heap):lim cfg (.fn 199) xs H=runL cfg a199 [.c c199] (initEnv xs) H:=lim_fn rfl rfl rfl xs H
theorem l202(xs:List AV)(H:Heap):lim cfg (.fn 202) xs H=runL cfg a202 [.c c202] (initEnv xs) H:=lim_fn rfl rfl rfl xs H
theorem l203(xs:List AV)(H:Heap):lim cfg (.fn 203) xs H=runL cfg a203 [.c c203] (initEnv xs) H:=lim_fn rfl rfl rfl xs H
theorem l204(xs:List AV)(H:Heap):lim cfg (.fn 204) xs H=runL cfg a204 [.c c204] (initEnv xs) H:=lim_fn rfl rfl rfl xs H
theorem l205(xs:List AV)(H:Heap):lim cfg (.fn 205) xs H=runL cfg a205 [.c c205] (initEnv xs) H:=lim_fn rfl rfl rfl xs H
theorem l206(xs:List AV)(H:Heap):lim cfg (.fn 206) xs H=runL cfg a206 [.c c206] (initEnv xs) H:=lim_fn rfl rfl rfl xs H
theorem l207(xs:List AV)(H:Heap):lim cfg (.fn 207) xs H=runL cfg a207 [.c c207] (initEnv xs) H:=lim_fn rfl rfl rfl xs H
theorem l208(xs:List AV)(H:Heap):lim cfg (.fn 208) xs H=runL cfg a208 [.c c208] (initEnv xs) H:=lim_fn rfl rfl rfl xs H
theorem l209(xs:List AV)(H:Heap):lim cfg (.fn 209) xs H=runL cfg a209 [.c c209] (initEnv xs) H:=lim_fn rfl rfl rfl xs H
theorem l210(xs:List AV)(H:Heap):lim cfg (.fn 210) xs H=runL cfg a210 [.c c210] (initEnv xs) H:=lim_fn rfl rfl rfl xs H
theorem l211(xs:List AV)(H:Heap):lim cfg (.fn 211) xs H=runL cfg a211 [.c c211] (initEnv xs) H:=lim_fn rfl rfl rfl xs H
theorem l212(xs:List AV)(H:Heap):lim cfg (.fn 212) xs H=runL cfg a212 [.c c212] (initEnv xs) H:=lim_fn rfl rfl rfl xs H
theorem l213(xs:List AV)(H:Heap):lim cfg (.fn 213) xs H=runL cfg a213 [.c c213] (initEnv xs) H:=lim_fn rfl rfl rfl xs H
theorem l216(xs:List AV)(H:Heap):lim cfg (.fn 216) xs H=runL cfg a216 [.c c216] (initEnv xs) H:=lim_fn rfl rfl rfl xs H
theorem l217(xs:List AV)(H:Heap):lim cfg (.fn 217) xs H=runL cfg a217 [.c c217] (initEnv xs) H:=lim_fn rfl rfl rfl xs H
theorem l218(xs:List AV)(H:Heap):lim cfg (.fn 218) xs H=runL cfg a218 [.c c218] (initEnv xs) H:=lim_fn rfl rfl rfl xs H
theorem l223(xs:List AV)(H:Heap):lim cfg (.fn 223) xs H=runL cfg a223 [.c c223] (initEnv xs) H:=lim_fn rfl rfl rfl xs H
theorem l224(xs:List AV)(H:Heap):lim cfg (.fn 224) xs H=runL cfg a224 [.c c224] (initEnv xs) H:=lim_fn rfl rfl rfl xs H
theorem l225(xs:List AV)(H:Heap):lim cfg (.fn 225) xs H=runL cfg a225 [.c c225] (initEnv xs) H:=lim_fn rfl rfl rfl xs H
theorem l226(xs:List AV)(H:Heap):lim cfg (.fn 226) xs H=runL cfg a226 [.c c226] (initEnv xs) H:=lim_fn rfl rfl rfl xs H
theorem l228(xs:List AV)(H:Heap):lim cfg (.fn 228) xs H=runL cfg a228 [.c c228] (initEnv xs) H:=lim_fn rfl rfl rfl xs H
theorem l229(xs:List AV)(H:Heap):lim cfg (.fn 229) xs H=runL cfg a229 [.c c229] (initEnv xs) H:=lim_fn rfl rfl rfl xs H
theorem l232(xs:List AV)(H:Heap):lim cfg (.fn 232) xs H=runL cfg a232 [.c c232] (initEnv xs) H:=lim_fn rfl rfl rfl xs H
theorem l233(xs:List AV)(H:Heap):lim cfg (.fn 233) xs H=runL cfg a233 [.c c233] (initEnv xs) H:=lim_fn rfl rfl rfl xs H
theorem l235(xs:List AV)(H:Heap):lim cfg (.fn 235) xs H=runL cfg a235 [.c c235] (initEnv xs) H:=lim_fn rfl rfl rfl xs H
theorem l247(xs:List AV)(H:Heap):lim cfg (.fn 247) xs H=runL cfg a247 [.c c247] (initEnv xs) H:=lim_fn rfl rfl rfl xs H
theorem l255(xs:List AV)(H:Heap):lim cfg (.fn 255) xs H=runL cfg a255 [.c c255] (initEnv xs) H:=lim_fn rfl rfl rfl xs H
theorem l256(xs:List AV)(H:Heap):lim cfg (.fn 256) xs H=runL cfg a256 [.c c256] (initEnv xs) H:=lim_fn rfl rfl rfl xs H
theorem l259(xs:List AV)(H:Heap):lim cfg (.fn 259) xs H=runL cfg a259 [.c c259] (initEnv xs) H:=lim_fn rfl rfl rfl xs H
theorem l260(xs:List AV)(H:Heap):lim cfg (.fn 260) xs H=runL cfg a260 [.c c260] (initEnv xs) H:=lim_fn rfl rfl rfl xs H
theorem l261(xs:List AV)(H:Heap):lim cfg (.fn 261) xs H=runL cfg a261 [.c c261] (initEnv xs) H:=lim_fn rfl rfl rfl xs H
theorem l262(xs:List AV)(H:Heap):lim cfg (.fn 262) xs H=runL cfg a262 [.c c262] (initEnv xs) H:=lim_fn rfl rfl rfl xs H
theorem l263(xs:List AV)(H:Heap):lim cfg (.fn 263) xs H=runL cfg a263 [.c c263] (initEnv xs) H:=lim_fn rfl rfl rfl xs H
theorem l264(xs:List AV)(H:Heap):lim cfg (.fn 264) xs H=runL cfg a264 [.c c264] (initEnv xs) H:=lim_fn rfl rfl rfl xs H
theorem l265(xs:List AV)(H:Heap):lim cfg (.fn 265) xs H=runL cfg a265 [.c c265] (initEnv xs) H:=lim_fn rfl rfl rfl xs H
theorem l266(xs:List AV)(H:Heap):lim cfg (.fn 266) xs H=runL cfg a266 [.c c266] (initEnv xs) H:=lim_fn rfl rfl rfl xs H
theorem l267(xs:List AV)(H:Heap):lim cfg (.fn 267) xs H=runL cfg a267 [.c c267] (initEnv xs) H:=lim_fn rfl rfl rfl xs H
theorem l268(xs:List AV)(H:Heap):lim cfg (.fn 268) xs H=runL cfg a268 [.c c268] (initEnv xs) H:=lim_fn rfl rfl rfl xs H
theorem l269(xs:List AV)(H:Heap):lim cfg (.fn 269) xs H=runL cfg a269 [.c c269] (initEnv xs) H:=lim_fn rfl rfl rfl xs H
theorem l272(xs:List AV)(H:Heap):lim cfg (.fn 272) xs H=runL cfg a272 [.c c272] (initEnv xs) H:=lim_fn rfl rfl rfl xs H
theorem l273(xs:List AV)(H:Heap):lim cfg (.fn 273) xs H=runL cfg a273 [.c c273] (initEnv xs) H:=lim_fn rfl rfl rfl xs H
theorem l274(xs:List AV)(H:Heap):lim cfg (.fn 274) xs H=runL cfg a274 [.c c274] (initEnv xs) H:=lim_fn rfl rfl rfl xs H
theorem l275(xs:List AV)(H:Heap):lim cfg (.fn 275) xs H=runL cfg a275 [.c c275] (initEnv xs) H:=lim_fn rfl rfl rfl xs H
theorem l284(xs:List AV)(H:Heap):lim cfg (.fn 284) xs H=runL cfg a284 [.c c284] (initEnv xs) H:=lim_fn rfl rfl rfl xs H
theorem l285(xs:List AV)(H:Heap):lim cfg (.fn 285) xs H=runL cfg a285 [.c c285] (initEnv xs) H:=lim_fn rfl rfl rfl xs H
end Go.Aa.T
