/-
  WHAT THE LAW LEANS ON, part 6 of 14: a machine of values and its soundness; the functions of the law upon it; what they come to.
-/
import Derived.Test.YtjoblbpgpmknmaaGreatDoorXsoue
import Derived.ChangeShapes
import Derived.ChangeReads
import Derived.ChangeOld
import Derived.ProofKit
import Derived.Carry
import Derived.DataElems
import Derived.Laws.Pointers
import Derived.Lib.SlTrimSet
import Derived.Shelf.Strings.SlTrimAscii
import Derived.Shelf.Strings.OnBuilder
import Derived.Shelf.Strings.Count
import Derived.Shelf.Strings.Search3
import Derived.Sort.Grow
import Derived.Sort.Walk0
import Derived.Sort.EncStr
import Derived.Lib.ParseIntB
import Derived.Lib.Bytealg
import Derived.Lib.LaidTab
import Derived.Lib.AppendIntMem
import Derived.Lib.AtoiErrMem
set_option linter.unusedVariables false
set_option linter.unusedSimpArgs false
namespace Go.Aa
open Go.RowKit Go.ChangeShapes Go.WideShapes Go.ChangeAt
def fltOf(b:Nat):AV:=if(FloatKind.f64.format.read b).isNaN=true then .nan else .flt b
theorem fltOf_rep{G:Ghost}{w:World}(b:Nat):Rep G w (.float .f64 b) (fltOf b):=by
 unfold fltOf
 split
 ·rename_i h;exact .nan b h
 ·exact .flt b
def tilesT(P:Program):Nat→List Field→Nat→Bool
 |off,[],tot=>off==tot
 |off,f::fs,tot=>(f.offset==off)&&tilesT P (off+P.cellsOf f.type) fs tot
def isAgg(P:Program)(t:TypeId):Bool:=match P.underlying t with
 |some (.struct _)=>true
 |_=>false
def plainT(P:Program):Nat→TypeId→Bool
 |0,_=>false
 |n+1,t=>
  match P.underlying t with
  |some .bool=>true
  |some (.int _)=>true
  |some (.float .f64)=>true
  |some .string=>true
  |some (.slice e)=>decide (0<P.cellsOf e)&&(isAgg P e||P.cellsOf e==1)&&plainT P n e
  |some (.struct fs)=>tilesT P 0 fs.toList (P.cellsOf t)&&fs.toList.all fun f=>plainT P n f.type
  |_=>false
def Tys(R:TypeId→List AV→Prop):List Field→List AV→Prop
 |[],xs=>xs=[]
 |f::fs,xs=>∃a b,xs=a++b∧R f.type a∧Tys R fs b
def Ty(P:Program):Nat→TypeId→List AV→Prop
 |0,_,_=>False
 |n+1,t,xs=>
  match P.underlying t with
  |some .bool=>∃b,xs=[.bool b]
  |some (.int k)=>∃m,xs=[.int k m]∧(Lit.int k m).wf=true
  |some (.float .f64)=>∃b,xs=[fltOf b]∧(Lit.float .f64 b).wf=true
  |some .string=>∃s,xs=[.str s]∧s.length≤9223372036854775807
  |some (.slice e)=>∃l:List AV,xs=[.sl .sh l]∧(l.length≤9223372036854775807∧∀x∈l,if isAgg P e then∃cs,x=.agg cs∧Ty P n e cs else Ty P n e [x])∧l.length*P.bytesOf e≤reachBytes
  |some (.struct fs)=>Tys (Ty P n) fs.toList xs
  |_=>False
section
variable{H:Type}{enc:TypeId×Value→H}{P:Program}{w:World}{base:Nat}{held:Bool}{G:Ghost}
theorem mapM_each{α β:Type}{f:α→Option β}{l:List α}{r:List β}(h:l.mapM f=some r):r.length=l.length∧∀i(h1:i<l.length)(h2:i<r.length),f l[i]=some r[i]:=by
 refine⟨mapM_some_length h,fun i h1 h2=> ?_⟩
 have:=mapM_some_get h i l[i] (List.getElem?_eq_getElem h1)
 rw[this,List.getElem?_eq_getElem h2]
theorem trod_spare:∀(n k:Nat)(t:TypeId)(cs:List Value)(x:DataW H×List MemPlace)(sp:Nat→Bool),plainT P k t=true→DataW.trod enc P w base (fun _=>true) held n t cs=some x→
 (∀p∈x.2,sp p.block=true)→DataW.trod enc P w base sp held n t cs=some x:=by
 intro n
 induction n with
 |zero=>intro k t cs x sp _ h;simp[DataW.trod]at h
 |succ n ih=>
  intro k t cs x sp hp h hs
  cases k with
  |zero=>cases hp
  |succ k=>
   unfold plainT at hp
   unfold DataW.trod at h⊢
   cases hu:P.underlying t with
   |none=>rw[hu]at hp;cases hp
   |some d=>
    rw[hu]at hp h
    cases d with
    |bool=>
     cases cs with
     |nil=>cases h
     |cons v r=>
      cases r with
      |cons v' r'=>cases v<;>cases h
      |nil=>cases v<;>first|exact h|cases h
    |int q=>
     cases cs with
     |nil=>cases h
     |cons v r=>
      cases r with
      |cons v' r'=>cases v<;>cases h
      |nil=>cases v<;>first|exact h|cases h
    |float q=>
     cases cs with
     |nil=>cases h
     |cons v r=>
      cases r with
      |cons v' r'=>cases v<;>cases h
      |nil=>cases v<;>first|exact h|cases h
    |string=>
     cases cs with
     |nil=>cases h
     |cons v r=>
      cases r with
      |cons v' r'=>cases v<;>cases h
      |nil=>cases v<;>first|exact h|cases h
    |slice e=>
     simp only[Bool.and_eq_true,decide_eq_true_eq]at hp
     obtain⟨⟨he,_⟩,hpe⟩:=hp
     cases cs with
     |nil=>cases h
     |cons v r=>
      cases r with
      |cons v' r'=>exact(by cases v<;>first|(cases h;done)|(rename_i oa len cap;cases oa<;>cases len<;>cases cap<;>cases h))
      |nil=>
       cases v with
       |slice oa len cap=>
        cases oa with
        |none=>cases len<;>cases cap<;>first|exact h|cases h
        |some a=>
         simp only at h⊢
         split at h
         ·rename_i hc
          rw[if_pos hc]
          cases he1:(List.range len).mapM fun i=>(w.cells? base (a.add (i*P.cellsOf e)) (P.cellsOf e)).bind (DataW.trod enc P w base (fun _=>true) held n e)with
          |none=>rw[he1]at h;cases h
          |some elems=>
           rw[he1]at h
           simp only[Option.bind_some,if_true]at h
           cases he2:(List.range (cap-len)).mapM fun j=>(w.cells? base (a.add ((len+j)*P.cellsOf e)) (P.cellsOf e)).bind (DataW.trod enc P w base (fun _=>true) held n e)with
           |none=>rw[he2]at h;cases h
           |some rest=>
            rw[he2]at h
            simp only[Option.map_some,Option.some.injEq]at h
            subst h
            have one:∀(i:Nat)(y:DataW H×List MemPlace),y∈elems++rest→(w.cells? base (a.add (i*P.cellsOf e)) (P.cellsOf e)).bind (DataW.trod enc P w base (fun _=>true) held n e)=some y→
             (w.cells? base (a.add (i*P.cellsOf e)) (P.cellsOf e)).bind (DataW.trod enc P w base sp held n e)=some y:=by
             intro i y hy hf
             cases hcs:w.cells? base (a.add (i*P.cellsOf e)) (P.cellsOf e)with
             |none=>rw[hcs]at hf;cases hf
             |some cs'=>
              rw[hcs]at hf
              simp only[Option.bind_some]at hf⊢
              exact ih k e cs' y sp hpe hf fun p hp=>hs p (by
               simp only[List.mem_append,List.mem_flatMap]
               exact .inr ⟨y,by simpa using hy,hp⟩)
            rw[mapM_carry he1 (fun i y _ hy hf=>one i y (by simp[hy]) hf)]
            simp only[Option.bind_some]
            have hrest:(if sp a.block=true then(List.range (cap-len)).mapM fun j=>(w.cells? base (a.add ((len+j)*P.cellsOf e)) (P.cellsOf e)).bind (DataW.trod enc P w base sp held n e)else some [])=some rest:=by
             by_cases hsp:sp a.block=true
             ·rw[if_pos hsp]
              exact mapM_carry he2 (fun j y _ hy hf=>one (len+j) y (by simp[hy]) hf)
             ·rw[if_neg hsp]
              have hr:=(mapM_each he2).1
              rw[List.length_range]at hr
              cases rest with
              |nil=>rfl
              |cons r0 rs=>
               exfalso
               refine hsp (hs (.cell a.block (a.off+0)) ?_)
               simp only[List.mem_append]
               refine .inl (MemPlace.mem_row.2 ⟨0,?_,rfl⟩)
               simp only[List.length_cons]
               exact Nat.mul_pos (by omega) he
            rw[hrest]
            rfl
         ·cases h
       |_=>cases h
    |struct fs=>
     simp only[Bool.and_eq_true,List.all_eq_true]at hp
     simp only at h⊢
     split at h
     ·rename_i hc
      rw[if_pos hc]
      cases he:fs.toList.mapM fun f=>DataW.trod enc P w base (fun _=>true) held n f.type ((cs.drop f.offset).take (P.cellsOf f.type))with
      |none=>rw[he]at h;cases h
      |some ys=>
       rw[he]at h
       simp only[Option.map_some,Option.some.injEq]at h
       subst h
       rw[mapM_carry he (fun f y hf hy hfy=>ih k f.type _ y sp (hp.2 f hf) hfy fun p hp'=>hs p (by simp only[List.mem_flatMap];exact⟨y,hy,hp'⟩))]
       rfl
     ·cases h
    |_=>cases hp
theorem cells_each{a:Addr}{n:Nat}{cs:List Value}(h:w.cells? base a n=some cs):cs.length=n∧∀j(hj:j<cs.length),w.cell? (a.add j)=some cs[j]:=by
 obtain⟨_,h1,h2⟩:=World.cells?_some h
 exact⟨h1,fun j hj=>by rw[h2 j (by omega),List.getElem?_eq_getElem hj]⟩
theorem addr_off(a:Addr)(n:Nat):(a.add n).off=a.off+n:=by unfold Addr.add;split<;>simp_all
theorem addr_block(a:Addr)(n:Nat):(a.add n).block=a.block:=by unfold Addr.add;split<;>rfl
theorem addr_add(a:Addr)(m n:Nat):(a.add m).add n=a.add (m+n):=Addr.add_add a m n
theorem cell_spot{a:Addr}{v:Value}(h:w.cell? a=some v):a.spot=none:=by
 unfold World.cell? at h
 split at h
 ·split at h
  ·cases h
  ·rename_i hs;simpa using hs
 ·cases h
def mkE(P:Program)(e:TypeId)(xs:List AV):AV:=if isAgg P e then .agg xs else xs.headD .undef
theorem single{k:Nat}{e:TypeId}{y:AV}(h:Ty P k e [y])(hn:isAgg P e=false):y.cells=[y]:=by
 cases k with
 |zero=>cases h
 |succ k=>
  unfold Ty at h
  unfold isAgg at hn
  cases hu:P.underlying e with
  |none=>rw[hu]at h;cases h
  |some d=>
   rw[hu]at h hn
   cases d with
   |bool=>obtain⟨b,hb⟩:=h;cases hb;rfl
   |int q=>obtain⟨b,hb,_⟩:=h;cases hb;rfl
   |float q=>
    cases q with
    |f32=>cases h
    |f64=>
     obtain⟨b,hb,_⟩:=h
     simp only[List.cons.injEq,and_true]at hb
     subst hb
     unfold fltOf;split<;>rfl
   |string=>obtain⟨b,hb,_⟩:=h;cases hb;rfl
   |slice q=>obtain⟨b,hb,_⟩:=h;cases hb;rfl
   |struct fs=>cases hn
   |_=>cases h
theorem mkE_cells{k:Nat}{e:TypeId}{xs:List AV}(h:Ty P k e xs)(hx:isAgg P e=true∨xs.length=1):(mkE P e xs).cells=xs:=by
 unfold mkE
 cases ha:isAgg P e with
 |true=>rfl
 |false=>
  rcases hx with h1|h1
  ·rw[ha]at h1;cases h1
  ·obtain⟨y,rfl⟩:=List.length_eq_one_iff.1 h1
   exact single h ha
theorem mkE_ty{k:Nat}{e:TypeId}{xs:List AV}(h:Ty P k e xs)(hx:isAgg P e=true∨xs.length=1):if isAgg P e then∃cs,mkE P e xs=.agg cs∧Ty P k e cs else Ty P k e [mkE P e xs]:=by
 unfold mkE
 cases ha:isAgg P e with
 |true=>exact⟨xs,rfl,h⟩
 |false=>
  rcases hx with h1|h1
  ·rw[ha]at h1;cases h1
  ·obtain⟨y,rfl⟩:=List.length_eq_one_iff.1 h1
   exact h
theorem tiles_le:∀{fs:List Field}{off tot:Nat},tilesT P off fs tot=true→off≤tot
 |[],off,tot,h=>by simp[tilesT]at h;omega
 |f::fs,off,tot,h=>by
  simp only[tilesT,Bool.and_eq_true]at h
  have:=tiles_le h.2
  omega
theorem weights_at{ts:List TypeId}{ds:List (DataW H)}:∀{e:TypeId}{l:List (DataW H)},(DataW.weightsAll P e l).all (·≤reachBytes)=true→∀(i:Nat)(h:i<l.length),(l[i].weights P e).all (·≤reachBytes)=true
 |e,[],_,i,h=>absurd h (by simp)
 |e,d::l,hw,0,h=>by
  simp only[DataW.weightsAll,List.all_append,Bool.and_eq_true]at hw
  exact hw.1
 |e,d::l,hw,i+1,h=>by
  simp only[DataW.weightsAll,List.all_append,Bool.and_eq_true]at hw
  exact weights_at (ts:=ts) (ds:=ds) hw.2 i (by simpa using h)
theorem fields_rep{n:Nat}{R:TypeId→List AV→Prop}{cs:List Value}{tot:Nat}(hcs:cs.length=tot):∀{fs:List Field}{off:Nat}{ys:List (DataW H×List MemPlace)},
 (∀f∈fs,∀y,DataW.trod enc P w base (fun _=>true) held n f.type ((cs.drop f.offset).take (P.cellsOf f.type))=some y→(y.1.weights P f.type).all (·≤reachBytes)=true→
   ∃xs:List AV,xs.length=((cs.drop f.offset).take (P.cellsOf f.type)).length∧(∀(i:Nat)v y,((cs.drop f.offset).take (P.cellsOf f.type))[i]?=some v→xs[i]?=some y→Rep G w v y)∧(∀y∈xs,AV.Data y)∧R f.type xs)→
 tilesT P off fs tot=true→(fs.mapM fun f=>DataW.trod enc P w base (fun _=>true) held n f.type ((cs.drop f.offset).take (P.cellsOf f.type)))=some ys→(DataW.weightsEach P (fs.map (·.type)) (ys.map (·.1))).all (·≤reachBytes)=true→
 ∃xs:List AV,xs.length=tot-off∧(∀(i:Nat)v y,cs[off+i]?=some v→xs[i]?=some y→Rep G w v y)∧(∀y∈xs,AV.Data y)∧Tys R fs xs
 |[],off,ys,_,ht,_,_=>by
  simp[tilesT]at ht
  exact⟨[],by simp;omega,fun i v y _ h=>(by simp at h),fun y hy=>(by cases hy),rfl⟩
 |f::fs,off,ys,ih,ht,hm,hwt=>by
  simp only[tilesT,Bool.and_eq_true,beq_iff_eq]at ht
  obtain⟨hoff,ht⟩:=ht
  have hle:=tiles_le ht
  rw[List.mapM_cons]at hm
  cases h1:DataW.trod enc P w base (fun _=>true) held n f.type ((cs.drop f.offset).take (P.cellsOf f.type))with
  |none=>rw[h1]at hm;cases hm
  |some y=>
   rw[h1]at hm
   cases h2:fs.mapM fun f=>DataW.trod enc P w base (fun _=>true) held n f.type ((cs.drop f.offset).take (P.cellsOf f.type))with
   |none=>rw[h2]at hm;cases hm
   |some ys'=>
    rw[h2]at hm
    cases hm
    simp only[List.map_cons,DataW.weightsEach,List.all_append,Bool.and_eq_true]at hwt
    obtain⟨a,a1,a2,a3,a4⟩:=ih f (by simp) y h1 hwt.1
    obtain⟨b,b1,b2,b3,b4⟩:=fields_rep hcs (fun f hf=>ih f (by simp[hf])) ht h2 hwt.2
    rw[List.length_take,List.length_drop,hoff]at a1
    have la:a.length=P.cellsOf f.type:=by omega
    refine⟨a++b,by rw[List.length_append];omega,fun i v y hv hy=> ?_,fun y hy=> ?_,a,b,rfl,a4,b4⟩
    ·rcases Nat.lt_or_ge i a.length with hi|hi
     ·rw[List.getElem?_append_left hi]at hy
      refine a2 i v y ?_ hy
      rw[List.getElem?_take,if_pos (by omega),List.getElem?_drop,hoff]
      exact hv
     ·rw[List.getElem?_append_right hi]at hy
      refine b2 (i-a.length) v y ?_ hy
      rw[←hv];congr 1;omega
    ·rcases List.mem_append.1 hy with hy|hy
     ·exact a3 y hy
     ·exact b3 y hy
theorem trod_rep(hG:∀a v,w.cell? a=some v→a.off<G.lim a.block):∀(n k:Nat)(t:TypeId)(cs:List Value)(x:DataW H×List MemPlace),plainT P k t=true→DataW.trod enc P w base (fun _=>true) held n t cs=some x→(x.1.weights P t).all (·≤reachBytes)=true→
 ∃xs:List AV,xs.length=cs.length∧(∀(i:Nat)v y,cs[i]?=some v→xs[i]?=some y→Rep G w v y)∧(∀y∈xs,AV.Data y)∧Ty P k t xs:=by
 intro n
 induction n with
 |zero=>intro k t cs x _ h;simp[DataW.trod]at h
 |succ n ih=>
  intro k t cs x hp h hwt
  cases k with
  |zero=>cases hp
  |succ k=>
   unfold plainT at hp
   unfold DataW.trod at h
   unfold Ty
   cases hu:P.underlying t with
   |none=>rw[hu]at hp;cases hp
   |some d=>
    rw[hu]at hp h
    have one:∀(v:Value)(y:AV),Rep G w v y→∀(i:Nat)v' y',[v][i]?=some v'→[y][i]?=some y'→Rep G w v' y':=fun v y hr i v' y' h1 h2=>by
     cases i with
     |zero=>cases h1;cases h2;exact hr
     |succ i=>cases h1
    have done:∀(v:Value)(y:AV),AV.Data y→Rep G w v y→∀z∈[y],AV.Data z:=fun v y hd _ z hz=>by
     rw[List.mem_singleton]at hz;subst hz;exact hd
    cases d with
    |bool=>
     cases cs with
     |nil=>cases h
     |cons v r=>
      cases r with
      |cons v' r'=>cases v<;>cases h
      |nil=>
       cases v with
       |bool b=>exact⟨[.bool b],rfl,one _ _ (.bool b),done _ _ (.bool b) (.bool (w:=w) (G:=G) b),b,rfl⟩
       |_=>cases h
    |int q=>
     cases cs with
     |nil=>cases h
     |cons v r=>
      cases r with
      |cons v' r'=>cases v<;>cases h
      |nil=>
       cases v with
       |int q' m=>
        simp only at h
        split at h
        ·rename_i hc
         obtain⟨rfl,hw⟩:=hc
         exact⟨[.int q' m],rfl,one _ _ (.int q' m),done _ _ (.int q' m) (.int (w:=w) (G:=G) q' m),m,rfl,hw⟩
        ·cases h
       |_=>cases h
    |float q=>
     cases q with
     |f32=>cases hp
     |f64=>
     cases cs with
     |nil=>cases h
     |cons v r=>
      cases r with
      |cons v' r'=>cases v<;>cases h
      |nil=>
       cases v with
       |float q' m=>
        simp only at h
        split at h
        ·rename_i hc
         obtain⟨rfl,hw⟩:=hc
         refine⟨[fltOf m],rfl,one _ _ (fltOf_rep m),done (.float .f64 m) _ ?_ (fltOf_rep m),m,rfl,hw⟩
         unfold fltOf
         split
         ·exact .nan
         ·exact .flt m
        ·cases h
       |_=>cases h
    |string=>
     cases cs with
     |nil=>cases h
     |cons v r=>
      cases r with
      |cons v' r'=>cases v<;>cases h
      |nil=>
       cases v with
       |string b=>
        simp only at h
        split at h
        ·rename_i hc
         refine⟨[.str b.data.toList],rfl,one _ _ (.str (w:=w) (G:=G) b.data.toList),done (.string b) _ (.str _) (.str (w:=w) (G:=G) b.data.toList),_,rfl,?_⟩
         exact hc
        ·cases h
       |_=>cases h
    |slice e=>
     simp only[Bool.and_eq_true,decide_eq_true_eq]at hp
     obtain⟨⟨he,hag⟩,hpe⟩:=hp
     cases cs with
     |nil=>cases h
     |cons v r=>
      cases r with
      |cons v' r'=>exact(by cases v<;>first|(cases h;done)|(rename_i oa len cap;cases oa<;>cases len<;>cases cap<;>cases h))
      |nil=>
       cases v with
       |slice oa len cap=>
        cases oa with
        |none=>
         cases len with
         |succ l=>cases h
         |zero=>
          cases cap with
          |succ l=>cases h
          |zero=>exact⟨[.sl .sh []],rfl,one _ _ (.sl0 none 0 .sh (fun hh=>by cases hh) (fun t hh=>by cases hh)),done (.slice none 0 0) _ (.sl _ _ (fun t hh=>by cases hh) (fun x hx=>by cases hx)) (.sl0 none 0 .sh (fun hh=>by cases hh) (fun t hh=>by cases hh)),[],rfl,⟨by simp,fun x hx=>by cases hx⟩,by simp⟩
        |some a=>
         simp only at h
         split at h
         ·rename_i hc
          cases he1:(List.range len).mapM fun i=>(w.cells? base (a.add (i*P.cellsOf e)) (P.cellsOf e)).bind (DataW.trod enc P w base (fun _=>true) held n e)with
          |none=>rw[he1]at h;cases h
          |some elems=>
           obtain⟨hl,hel⟩:=mapM_each he1
           rw[List.length_range]at hl
           rw[he1,Option.bind_some,Option.map_eq_some_iff]at h
           obtain⟨rest,-,h⟩:=h
           subst h
           simp only[DataW.weights,hu,List.all_cons,List.all_append,Bool.and_eq_true,decide_eq_true_eq,List.length_map]at hwt
           have hwe:=weights_at (ts:=[]) (ds:=[]) hwt.2.1
           have each:∀i,∃p:List Value×List AV,i<len→p.1.length=P.cellsOf e∧(∀j(hj:j<p.1.length),w.cell? (a.add (i*P.cellsOf e+j))=some p.1[j])∧p.2.length=P.cellsOf e∧
            (∀(j:Nat)v y,p.1[j]?=some v→p.2[j]?=some y→Rep G w v y)∧(∀y∈p.2,AV.Data y)∧Ty P k e p.2:=by
            intro i
            by_cases hi:i<len
            ·have:=hel i (by simpa using hi) (by omega)
             simp only[List.getElem_range]at this
             cases hcs:w.cells? base (a.add (i*P.cellsOf e)) (P.cellsOf e)with
             |none=>rw[hcs]at this;cases this
             |some row=>
              rw[hcs]at this
              obtain⟨r1,r2⟩:=cells_each hcs
              obtain⟨xs,x1,x3,x4,x5⟩:=ih k e row _ hpe this (by have:=hwe i (by rw[List.length_map];omega);rwa [List.getElem_map]at this)
              exact⟨(row,xs),fun _=>⟨r1,fun j hj=>by rw[←r2 j hj,addr_add],by simp only;omega,x3,x4,x5⟩⟩
            ·exact⟨([],[]),fun hh=>absurd hh hi⟩
           obtain⟨f,hf⟩:=Classical.axiomOfChoice each
           have hcells:∀i,i<len→(mkE P e (f i).2).cells=(f i).2:=fun i hi=>mkE_cells (hf i hi).2.2.2.2.2 (by
            have:=(hf i hi).2.2.1
            rcases Bool.or_eq_true _ _▸hag with h1|h1
            ·exact .inl h1
            ·exact .inr (by rw[this];simpa using h1))
           have hlen:((List.range len).map fun i=>mkE P e (f i).2).length=len:=by simp
           have hget:∀i(hi:i<((List.range len).map fun i=>mkE P e (f i).2).length),((List.range len).map fun i=>mkE P e (f i).2)[i]=mkE P e (f i).2:=fun i hi=>by simp
           have hdat:∀x∈((List.range len).map fun i=>mkE P e (f i).2),∀y∈x.cells,AV.Data y:=fun x hx y hy=>by
            obtain⟨i,hi,rfl⟩:=List.mem_map.1 hx
            rw[List.mem_range]at hi
            rw[hcells i hi]at hy
            exact(hf i hi).2.2.2.2.1 y hy
           have hrep:Rep G w (.slice (some a) len cap) (.sl .sh ((List.range len).map fun i=>mkE P e (f i).2)):=by
            rcases Nat.eq_zero_or_pos len with h0|h0
            ·subst h0
             exact .sl0 (some a) cap .sh (fun hh=>by cases hh) (fun t hh=>by cases hh)
            ·have hs:a.spot=none:=by
              obtain⟨r1,r2,_⟩:=hf 0 h0
              have:=r2 0 (by omega)
              rw[show 0*P.cellsOf e+0=0 by omega]at this
              exact cell_spot (a:=a) this
             have:=Rep.sl (G:=G) (w:=w) a cap .sh ((List.range len).map fun i=>mkE P e (f i).2) (P.cellsOf e) (fun i j=>((f i).1[j]?).getD Go.undef) (by
              intro hh
              have:=congrArg List.length hh
              rw[hlen]at this
              simp at this;omega)
              (by rw[hlen];exact hc.2.1) hc.2.2 hs (fun i hi=>by rw[hget i hi,hcells i (by omega)];exact(hf i (by omega)).2.2.1) he hdat
              (by
                rw[hlen]
                obtain⟨r1,r2,_⟩:=hf (len-1) (by omega)
                have:=hG _ _ (r2 (P.cellsOf e-1) (by omega))
                have e2:(a.add ((len-1)*P.cellsOf e+(P.cellsOf e-1))).off=a.off+((len-1)*P.cellsOf e+(P.cellsOf e-1)):=addr_off _ _
                rw[e2]at this
                have e3:len*P.cellsOf e=(len-1)*P.cellsOf e+P.cellsOf e:=by
                 conv=>lhs;rw[show len=(len-1)+1 by omega,Nat.add_mul,Nat.one_mul]
                have e4:(a.add ((len-1)*P.cellsOf e+(P.cellsOf e-1))).block=a.block:=addr_block _ _
                rw[e4]at this
                omega)
              (fun i hi j hj=>by
                rw[hlen]at hi
                obtain⟨r1,r2,_⟩:=hf i hi
                have hj':j<(f i).1.length:=by omega
                rw[r2 j hj',List.getElem?_eq_getElem hj'];rfl)
              (fun i hi j hj=>by
                have hi':i<len:=by omega
                obtain⟨r1,r2,r3,r4,_⟩:=hf i hi'
                simp only[hget i hi,hcells i hi']at hj⊢
                have hj':j<(f i).1.length:=by omega
                rw[List.getElem?_eq_getElem hj']
                exact r4 j _ _ (List.getElem?_eq_getElem hj') (List.getElem?_eq_getElem hj))
              (fun hh=>by cases hh) (fun t hh=>by cases hh)
             rw[hlen]at this
             exact this
           refine⟨_,rfl,one _ _ hrep,done _ _ (.sl _ _ (fun t hh=>by cases hh) hdat) hrep,_,rfl,⟨?_,?_⟩,by rw[hlen,←hl];exact Nat.le_trans (Nat.mul_le_mul_right _ (Nat.le_add_right _ _)) hwt.1⟩
           ·rw[hlen]
            have:=hc.2.2
            have:=hc.2.1
            have e:maxLen=9223372036854775807:=rfl
            omega
           ·intro x hx
            obtain⟨i,hi,rfl⟩:=List.mem_map.1 hx
            rw[List.mem_range]at hi
            exact mkE_ty (hf i hi).2.2.2.2.2 (by
             have:=(hf i hi).2.2.1
             rcases Bool.or_eq_true _ _▸hag with h1|h1
             ·exact .inl h1
             ·exact .inr (by rw[this];simpa using h1))
         ·cases h
       |_=>cases h
    |struct fs=>
     simp only[Bool.and_eq_true,List.all_eq_true]at hp
     simp only at h
     split at h
     ·rename_i hc
      cases he:fs.toList.mapM fun f=>DataW.trod enc P w base (fun _=>true) held n f.type ((cs.drop f.offset).take (P.cellsOf f.type))with
      |none=>rw[he]at h;cases h
      |some ys=>
       rw[he]at h
       simp only[Option.map_some,Option.some.injEq]at h
       subst h
       simp only[DataW.weights,hu]at hwt
       obtain⟨xs,x1,x2,x3,x4⟩:=fields_rep (R:=Ty P k) (tot:=P.cellsOf t) (cs:=cs) hc (fun f hf ys hy hw=>ih k f.type _ ys (hp.2 f hf) hy hw) hp.1 he hwt
       exact⟨xs,by omega,fun i v y h1 h2=>x2 i v y (by simpa using h1) h2,x3,x4⟩
     ·cases h
    |_=>cases hp
def TyV(P:Program)(k:Nat)(t:TypeId)(x:AV):Prop:=if isAgg P t then∃cs,x=.agg cs∧Ty P k t cs else Ty P k t [x]
def TyAll(P:Program)(k:Nat):List TypeId→List AV→Prop
 |[],[]=>True
 |t::ts,x::xs=>TyV P k t x∧TyAll P k ts xs
 |_,_=>False
theorem not_agg{k:Nat}{r:Reach}{b0:Nat}{t:TypeId}{v:Value}(hp:plainT P k t=true)(ha:isAgg P t=false)(hval:Value.okWide P w r b0 t v):v.cells= #[v]:=by
 cases k with
 |zero=>cases hp
 |succ k=>
  unfold plainT at hp
  unfold isAgg at ha
  unfold Value.okWide at hval
  cases hu:P.underlying t with
  |none=>rw[hu]at hp;cases hp
  |some d=>
   rw[hu]at hp ha hval
   cases d with
   |struct fs=>cases ha
   |bool=>cases v<;>first|rfl|(simp[Cell.okWide,Cell.ok,hu]at hval;done)
   |int q=>cases v<;>first|rfl|(simp[Cell.okWide,Cell.ok,hu]at hval;done)
   |float q=>cases v<;>first|rfl|(simp[Cell.okWide,Cell.ok,hu]at hval;done)
   |string=>cases v<;>first|rfl|(simp[Cell.okWide,Cell.ok,hu]at hval;done)
   |slice q=>cases v<;>first|rfl|(simp[Cell.okWide,Cell.ok,hu]at hval;done)
   |_=>cases hp
theorem agg_of{r:Reach}{b0:Nat}{t:TypeId}{v:Value}(ha:isAgg P t=true)(hval:Value.okWide P w r b0 t v):∃cs,v=.agg cs:=by
 unfold isAgg at ha
 unfold Value.okWide at hval
 cases hu:P.underlying t with
 |none=>rw[hu]at ha;cases ha
 |some d=>
  rw[hu]at ha hval
  cases d with
  |struct fs=>obtain⟨cs,h,_⟩:=hval;exact⟨cs,h⟩
  |_=>cases ha
theorem one_rep(hG:∀a v,w.cell? a=some v→a.off<G.lim a.block){k:Nat}{r:Reach}{b0:Nat}{t:TypeId}{v:Value}{d:DataW H}{ps:List MemPlace}(hp:plainT P k t=true)(hval:Value.okWide P w r b0 t v)
 (h:DataW.Trod enc P w base (fun _=>true) held t v d ps)(hwt:(d.weights P t).all (·≤reachBytes)=true):∃x,Rep G w v x∧TyV P k t x:=by
 obtain⟨n,hn⟩:=h
 obtain⟨xs,x1,x2,x3,x4⟩:=trod_rep hG n k t _ _ hp hn hwt
 unfold TyV
 cases ha:isAgg P t with
 |true=>
  obtain⟨cs,rfl⟩:=agg_of ha hval
  refine⟨.agg xs,.agg cs xs (by rw[x1];exact Array.length_toList.symm) (fun i h1 h2=>x2 i _ _ ?_ (List.getElem?_eq_getElem h2)),xs,rfl,x4⟩
  rw[show(Value.agg cs).cells=cs from rfl,Array.getElem?_toList,Array.getElem?_eq_getElem h1]
 |false=>
  have hc:=not_agg hp ha hval
  rw[hc]at x1 x2
  obtain⟨y,rfl⟩:=List.length_eq_one_iff.1 (x1.trans rfl)
  exact⟨y,x2 0 v y rfl rfl,x4⟩
theorem all_rep(hG:∀a v,w.cell? a=some v→a.off<G.lim a.block){k:Nat}{r:Reach}{b0:Nat}:∀{ts:List TypeId}{vs:List Value}{ds:List (DataW H)}{ps:List MemPlace},ts.all (plainT P k)=true→
 (∀(j:Nat)t v,ts[j]?=some t→vs[j]?=some v→Value.okWide P w r b0 t v)→DataW.TrodAll enc P w base (fun _=>true) held ts vs ds ps→(DataW.weightsEach P ts ds).all (·≤reachBytes)=true→
 ∃xs:List AV,xs.length=vs.length∧(∀(i:Nat)v y,vs[i]?=some v→xs[i]?=some y→Rep G w v y)∧TyAll P k ts xs
 |[],[],[],ps,_,_,_,_=>⟨[],rfl,fun i v y h=>(by simp at h),trivial⟩
 |t::ts,v::vs,d::ds,ps,hp,hval,⟨p,q,h1,h2,_⟩,hwt=>by
  rw[List.all_cons,Bool.and_eq_true]at hp
  simp only[DataW.weightsEach,List.all_append,Bool.and_eq_true]at hwt
  obtain⟨x,hx,hy⟩:=one_rep hG hp.1 (hval 0 t v rfl rfl) h1 hwt.1
  obtain⟨xs,x1,x2,x3⟩:=all_rep hG hp.2 (fun j t v a b=>hval (j+1) t v a b) h2 hwt.2
  refine⟨x::xs,by simp[x1],fun i v' y' a b=> ?_,hy,x3⟩
  cases i with
  |zero=>cases a;cases b;exact hx
  |succ i=>exact x2 i v' y' a b
 |[],[],_::_,_,_,_,h,_=>h.elim
 |[],_::_,_,_,_,_,h,_=>h.elim
 |_::_,[],_,_,_,_,h,_=>h.elim
 |_::_,_::_,[],_,_,_,h,_=>h.elim
theorem all_shut{w':World}{k:Nat}{sp:Nat→Bool}(hB:Below w.heap.size w w'):∀{ts:List TypeId}{vs:List Value}{ds:List (DataW H)}{ps:List MemPlace},ts.all (plainT P k)=true→
 (∀p∈ps,sp p.block=true)→DataW.TrodAll enc P w base (fun _=>true) held ts vs ds ps→DataW.TrodAll enc P w' base sp held ts vs ds ps
 |[],[],[],ps,_,_,h=>h
 |t::ts,v::vs,d::ds,ps,hp,hs,⟨p,q,⟨n,h1⟩,h2,e⟩=>by
  subst e
  rw[List.all_cons,Bool.and_eq_true]at hp
  refine⟨p,q,⟨n,?_⟩,all_shut hB hp.2 (fun x hx=>hs x (by simp[hx])) h2,rfl⟩
  refine DataW.trod_carry n _ _ _ (trod_spare n k _ _ _ sp hp.1 h1 fun x hx=>hs x (by simp[hx])) (fun x hx=>hB.same (DataW.trod_lt n _ _ _ h1 x hx))
 |[],[],_::_,_,_,_,h=>h.elim
 |[],_::_,_,_,_,_,h=>h.elim
 |_::_,[],_,_,_,_,h=>h.elim
 |_::_,_::_,[],_,_,_,h=>h.elim
theorem all_len{sp:Nat→Bool}:∀{ts:List TypeId}{vs:List Value}{ds:List (DataW H)}{ps:List MemPlace},DataW.TrodAll enc P w base sp held ts vs ds ps→vs.length=ts.length∧ds.length=ts.length
 |[],[],[],_,_=>⟨rfl,rfl⟩
 |t::ts,v::vs,d::ds,ps,⟨p,q,h1,h2,e⟩=>by
  obtain⟨a,b⟩:=all_len h2
  exact⟨by simp[a],by simp[b]⟩
 |[],[],_::_,_,h=>h.elim
 |[],_::_,_,_,h=>h.elim
 |_::_,[],_,_,h=>h.elim
 |_::_,_::_,[],_,h=>h.elim
def GW(w:World):Ghost:={lim:=fun b=>match w.heap[b]? with|some (.cells c _ _)=>c.size|_=>0,nb:=0,μ:=fun _=>0,nt:=0,τ:=fun _=>0,ext:=fun _=>0,cap:=fun _=>0,tes:=fun _=>0,nl:=0,ln:=fun _=>0,mc:=fun _=>0,hole:=fun _=>false}
def Glob0(P:Program)(w:World):Prop:=∀s∈globSpec,∀g,P.globalNamed s.1=some g→∃cs e m,w.heap[g]?=some (.cells cs e m)∧s.2 cs
theorem glob0_none(h:(globSpec.map (fun s=>s.1)).all (fun s=>(P.globalNamed s).isNone)=true)(w:World):Glob0 P w:=fun s hs g hg=>by
 have:=List.all_eq_true.1 h s.1 (List.mem_map_of_mem hs)
 rw[hg]at this;cases this
theorem GW_heap(w:World)(hg:Glob0 P w):HRep P (GW w) w Heap.nil:=
 ⟨fun b hb=>by simp[GW,Array.getElem?_eq_none hb],rfl,rfl,rfl,fun k hk=>absurd hk (by simp[Heap.nil]),fun i j hi=>absurd hi.1 (by simp[GW]),fun k hk=>absurd hk.1 (by simp[GW]),fun t ht=>absurd ht (by simp[Heap.nil]),fun i j hi=>absurd hi (by simp[GW]),
  fun k t hk=>absurd hk.1 (by simp[GW]),fun l hl=>absurd hl (by simp[Heap.nil]),fun i j hi=>absurd hi (by simp[GW]),
  fun s hs g h=>by
   obtain⟨cs,e,m,h1,h2⟩:=hg s hs g h
   exact⟨⟨fun k hk=>absurd hk.1 (by simp[GW]),fun k hk=>absurd hk (by simp[GW]),fun k hk=>absurd hk (by simp[GW])⟩,cs,e,m,h1,h2⟩⟩
theorem GW_lim:∀a v,w.cell? a=some v→a.off<(GW w).lim a.block:=by
 intro a v h
 unfold World.cell? at h
 unfold GW
 simp only
 split at h
 ·rename_i c _ _ hc
  rw[hc]
  split at h
  ·cases h
  ·exact(Array.getElem?_eq_some_iff.1 h).1
 ·cases h
theorem step_below{G:Ghost}{w w':World}{G':Ghost}(h:Step G w G' w')(h1:G.nb=0)(h2:G.nt=0)(h3:G.nl=0):Below w.heap.size w w':=
 ⟨h.os,h.tape,h.output,h.size,fun k hk=>(h.frame k hk (fun i hi=>absurd hi.1 (by omega)) (fun i hi=>absurd hi (by omega)) (fun i hi=>absurd hi (by omega))).1⟩
theorem post_of_below{f:Func}{s:ChangeSpec}{apart fresh handsOn again:Bool}{W W':World}{args:Array Value}{v:Value}{ds gs:List (DataW H)}{before pa pv:List MemPlace}
 (hW:DataW.Whole enc P f.params.toList s.vars apart W args.toList ds gs before)
 (hres:∀(b:Nat)(sp:Nat→Bool)(hd:Bool),DataW.TrodAll enc P W' b sp hd f.resultTypes.toList (v.resultList f.resultTypes.size) (s.fn H (ds++gs)).results [])
 (hargs:∀sp:Nat→Bool,(∀p∈before,sp p.block=true)→DataW.TrodAll enc P W' 0 sp true f.params.toList args.toList (s.fn H (ds++gs)).args pa)
 (hvars:∀sp:Nat→Bool,(∀p∈before,sp p.block=true)→DataW.TrodVars enc P W' sp s.vars (s.fn H (ds++gs)).vars pv)
 (hps:before=pa++pv)(hb:Below W.heap.size W W')
 (hok:∀(j:Nat)(t:TypeId)(r:Value),f.resultTypes[j]?=some t→(v.resultList f.resultTypes.size)[j]?=some r→Value.okWide P W' .any 0 t r):
 s.post enc P f apart fresh handsOn again W args v W':=by
 have hlt:∀p∈before,p.block<W.heap.size:=fun p hp=>hW.lt p hp
 have hold:∀p∈before,(fun b=>decide (b<W.heap.size)) p.block=true:=fun p hp=>by simpa using hlt p hp
 refine⟨ds,gs,before,[],pa,pv,hW,hres _ _ _,hargs _ hold,hvars _ hold,World.keptBut_mono (fun p hp=>⟨hp,?_⟩) (hb.frame (·∈before)),fun _=> ?_⟩
 ·rw[hps,List.mem_append]at hp
  exact Or.inr hp
 ·obtain⟨_,_,_,_,_,hz,hn⟩:=hW
  refine⟨hok,_,_,([]++pa)++pv,⟨[]++pa,pv,trodAll_append (hargs _ (fun _ _=>rfl)) (hres _ _ _),hvars _ (fun _ _=>rfl),rfl,?_,?_⟩,?_⟩
  ·intro b off hp
   have hin:MemPlace.cell b off∈before:=by rw[hps];simpa using hp
   rw[hb.frozen (hlt _ hin)]
   exact hz b off hin
  ·intro ha
   have:=hn ha
   rw[hps]at this
   simpa using this
  ·intro p hp _
   rw[hps]
   simpa using hp
end
section
variable{P:Program}{k:Nat}{t:TypeId}{x:AV}{xs:List AV}
theorem ty_bool(hu:P.underlying t=some .bool)(h:Ty P (k+1) t xs):∃b,xs=[.bool b]:=by unfold Ty at h;rw[hu]at h;exact h
theorem ty_int{q:IntKind}(hu:P.underlying t=some (.int q))(h:Ty P (k+1) t xs):∃m,xs=[.int q m]∧(Lit.int q m).wf=true:=by unfold Ty at h;rw[hu]at h;exact h
theorem ty_string(hu:P.underlying t=some .string)(h:Ty P (k+1) t xs):∃s,xs=[.str s]∧s.length≤9223372036854775807:=by unfold Ty at h;rw[hu]at h;exact h
theorem ty_sliceZ{e:TypeId}(hu:P.underlying t=some (.slice e))(h:Ty P (k+1) t xs):∃l:List AV,xs=[.sl .sh l]∧(l.length≤9223372036854775807∧∀x∈l,TyV P k e x)∧l.length*P.bytesOf e≤reachBytes:=by unfold Ty at h;rw[hu]at h;exact h
theorem ty_slice{e:TypeId}(hu:P.underlying t=some (.slice e))(h:Ty P (k+1) t xs):∃l:List AV,xs=[.sl .sh l]∧l.length≤9223372036854775807∧∀x∈l,TyV P k e x:=by
 obtain⟨l,h1,h2,-⟩:=ty_sliceZ hu h
 exact⟨l,h1,h2⟩
theorem ty_struct{fs:Array Field}(hu:P.underlying t=some (.struct fs))(h:Ty P (k+1) t xs):Tys (Ty P k) fs.toList xs:=by unfold Ty at h;rw[hu]at h;exact h
theorem tyv_struct{fs:Array Field}(hu:P.underlying t=some (.struct fs))(h:TyV P (k+1) t x):∃cs,x=.agg cs∧Tys (Ty P k) fs.toList cs:=by
 unfold TyV isAgg at h;rw[hu]at h
 obtain⟨cs,e,hw⟩:=h
 exact⟨cs,e,ty_struct hu hw⟩
theorem tyall_2{a b:TypeId}(h:TyAll P k [a,b] xs):∃x y,xs=[x,y]∧TyV P k a x∧TyV P k b y:=by
 match xs,h with
 |[x,y],⟨h,h2,_⟩=>exact⟨x,y,rfl,h,h2⟩
end
end Go.Aa
set_option linter.unusedVariables false
set_option linter.unusedSimpArgs false
namespace Go.Aa
open Go.RowKit
variable{P:Program}{G G':Ghost}{w w2 w3:World}{H H':Heap}
def Free(G:Ghost)(b:Nat):Prop:=G.lim b=0∧(∀k,G.on k→b≠G.μ k)∧(∀t,t<G.nt→b≠G.τ t)∧(∀k,k<G.nl→b≠G.ln k)
theorem free_new(hH:HRep P G w H):Free G w.heap.size:=
 ⟨hH.base _ (Nat.le_refl _),fun k hk e=>by have:=hH.μlt hk;omega,fun t ht e=>by
   obtain⟨_,us,u,h,_⟩:=hH.tok t (by rw[←hH.nt];exact ht)
   rw[←e]at h
   exact absurd (Array.getElem?_eq_some_iff.1 h).1 (by omega),
  fun l hl e=>by
   obtain⟨rec,h,_⟩:=hH.loop l (by rw[←hH.nl];exact hl)
   rw[←e]at h
   exact absurd (Array.getElem?_eq_some_iff.1 h).1 (by omega)⟩
theorem lay_step(hH:HRep P G w H)(o:Obj):Step G w G (w.alloc o)∧HRep P G (w.alloc o) H:=by
 have hheap:∀b,b<w.heap.size→(w.alloc o).heap[b]?=w.heap[b]?:=fun b hb=>Below.heap_alloc w o b hb
 have hsz:(w.alloc o).heap.size=w.heap.size+1:=by simp
 have hcell:∀b off,off<G.lim b→(w.alloc o).cell? ⟨b,off,none⟩=w.cell? ⟨b,off,none⟩:=fun b off h=>by
  have hb:b<w.heap.size:=by
   rcases Nat.lt_or_ge b w.heap.size with h1|h1
   ·exact h1
   ·rw[hH.base b h1]at h;omega
  unfold World.cell?
  rw[hheap b hb]
 have hst:Step G w G (w.alloc o):=
  ⟨rfl,rfl,rfl,by omega,fun _=>Nat.le_refl _,hcell,Nat.le_refl _,fun _ _=>rfl,fun _ _=>rfl,fun k h=>.inl ⟨k,h,rfl⟩,fun _ _=>rfl,Nat.le_refl _,fun _ _=>Nat.le_refl _,
   fun _ _ _=>⟨rfl,rfl⟩,fun _ _=>rfl,fun _ h=>.inl ⟨h,rfl⟩,Nat.le_refl _,fun _ _=>rfl,fun _ h1 h2=>absurd h2 (by omega),fun b hb _ _ _=>⟨hheap b hb,rfl⟩⟩
 refine⟨hst,fun b hb=>hH.base b (by omega),hH.nb,hH.nt,hH.nl,fun k hk hh=> ?_,hH.μinj,hH.μlim,fun t ht=> ?_,hH.τinj,hH.μτ,fun l hl=> ?_,hH.linj,hH.glob.step hst⟩
 ·obtain⟨us,e,h,h1,h2⟩:=hH.box k hk hh
  exact⟨us,e,by rw[hheap _ (Array.getElem?_eq_some_iff.1 h).1];exact h,h1,fun i i1 i2=>(h2 i i1 i2).step hst⟩
 ·obtain⟨h0,us,e,h,h1⟩:=hH.tok t ht
  exact⟨h0,us,e,by rw[hheap _ (Array.getElem?_eq_some_iff.1 h).1];exact h,h1⟩
 ·obtain⟨rec,h,h1⟩:=hH.loop l hl
  exact⟨rec,by rw[hheap _ (Array.getElem?_eq_some_iff.1 h).1];exact h,h1.keep hst.keep⟩
theorem free_step{b:Nat}(hf:Free G b)(hb:b<w.heap.size)(hst:Step G w G' w2)(hlt:∀t,t<G.nt→G.τ t<w.heap.size):Free G' b∧w2.heap[b]?=w.heap[b]?:=by
 obtain⟨h0,h1,h2,h3⟩:=hf
 obtain⟨f1,f2⟩:=hst.frame b hb h1 h2 h3
 refine⟨⟨by rw[f2];exact h0,fun k hk e=> ?_,fun t ht e=> ?_,fun l hl e=> ?_⟩,f1⟩
 ·rcases hst.μnew k hk with⟨j,hj,e2⟩|h
  ·exact h1 j hj (e.trans e2)
  ·omega
 ·rcases hst.τnew t ht with⟨ht',e'⟩|h
  ·rw[e']at e;exact h2 t ht' e
  ·omega
 ·rcases Nat.lt_or_ge l G.nl with hl'|hl'
  ·rw[hst.ln l hl']at e;exact h3 l hl' e
  ·have:=hst.lnew l hl' hl;omega
theorem poke{b:Nat}(hf:Free G' b)(hbase:Base G w)(hb:w.heap.size≤b)(hst:Step G w G' w2)(hH2:HRep P G' w2 H')(hother:∀k,k≠b→w3.heap[k]?=w2.heap[k]?)(hsz:w3.heap.size=w2.heap.size)
 (hgl:Glob P G w)
 (hos:w3.os=w2.os)(htape:w3.tape=w2.tape)(hout:w3.output=w2.output):Step G w G' w3∧HRep P G' w3 H':=by
 obtain⟨h0,h1,h2,h3⟩:=hf
 have hkeep:Keep G' w2 G' w3:=
  ⟨fun _=>Nat.le_refl _,fun c off h=>by
    have:c≠b:=fun e=>by subst e;omega
    unfold World.cell?
    rw[hother c this],Nat.le_refl _,fun _ h=>h,fun _ _=>rfl,Nat.le_refl _,fun _ _=>Nat.le_refl _,fun _ _ _=>⟨rfl,rfl⟩,fun _ _=>rfl,Nat.le_refl _,fun _ _=>rfl,fun _ _=>rfl⟩
 refine⟨⟨hos.trans hst.os,htape.trans hst.tape,hout.trans hst.output,by rw[hsz];exact hst.size,hst.lim,fun c off h=> ?_,hst.nb,hst.hole,hst.μ,hst.μnew,hst.mc,hst.nt,hst.ext,hst.τ,hst.tes,hst.τnew,hst.nl,hst.ln,hst.lnew,fun c hc a1 a2 a3=> ?_⟩,
  fun c hc=>hH2.base c (by omega),hH2.nb,hH2.nt,hH2.nl,fun k hk hh=> ?_,hH2.μinj,hH2.μlim,fun t ht=> ?_,hH2.τinj,hH2.μτ,fun l hl=> ?_,hH2.linj,fun sp hs g hg=>by
   obtain⟨g1,cs,e,m,g4,g5⟩:=hH2.glob sp hs g hg
   obtain⟨_,_,_,_,q4,_⟩:=hgl sp hs g hg
   have:=(Array.getElem?_eq_some_iff.1 q4).1
   exact⟨g1,cs,e,m,by rw[hother g (by omega)];exact g4,g5⟩⟩
 ·rw[←hst.cell c off h]
  exact hkeep.cell c off (Nat.lt_of_lt_of_le h (hst.lim c))
 ·obtain⟨e1,e2⟩:=hst.frame c hc a1 a2 a3
  exact⟨by rw[hother c (by omega)];exact e1,e2⟩
 ·obtain⟨us,e,h,g1,g2⟩:=hH2.box k hk hh
  exact⟨us,e,by rw[hother _ (Ne.symm (h1 k ⟨by rw[hH2.nb];exact hk,hh⟩))];exact h,g1,fun i i1 i2=>(g2 i i1 i2).keep hkeep⟩
 ·obtain⟨g0,us,e,h,g1⟩:=hH2.tok t ht
  exact⟨g0,us,e,by rw[hother _ (Ne.symm (h2 t (by rw[hH2.nt];exact ht)))];exact h,g1⟩
 ·obtain⟨rec,h,g1⟩:=hH2.loop l hl
  exact⟨rec,by rw[hother _ (Ne.symm (h3 l (by rw[hH2.nl];exact hl)))];exact h,g1.keep hkeep⟩
theorem tok_lt(hH:HRep P G w H):∀t,t<G.nt→G.τ t<w.heap.size:=fun t ht=>by
 obtain⟨_,us,u,h,_⟩:=hH.tok t (by rw[←hH.nt];exact ht)
 exact(Array.getElem?_eq_some_iff.1 h).1
end Go.Aa
set_option linter.unusedVariables false
set_option linter.unusedSimpArgs false
namespace Go.Aa
open Go.RowKit
variable{P:Program}{G:Ghost}{w w':World}{H:Heap}
theorem below_step(hH:HRep P G w H)(hB:Below w.heap.size w w'):Step G w G w'∧HRep P G w' H:=by
 have hheap:∀b,b<w.heap.size→w'.heap[b]?=w.heap[b]?:=fun b hb=>hB.block b hb
 have hcell:∀b off,off<G.lim b→w'.cell? ⟨b,off,none⟩=w.cell? ⟨b,off,none⟩:=fun b off h=>by
  have hb:b<w.heap.size:=by
   rcases Nat.lt_or_ge b w.heap.size with h1|h1
   ·exact h1
   ·rw[hH.base b h1]at h;omega
  unfold World.cell?
  rw[hheap b hb]
 have hst:Step G w G w':=
  ⟨hB.os,hB.tape,hB.output,hB.size,fun _=>Nat.le_refl _,hcell,Nat.le_refl _,fun _ _=>rfl,fun _ _=>rfl,fun k h=>.inl ⟨k,h,rfl⟩,fun _ _=>rfl,Nat.le_refl _,fun _ _=>Nat.le_refl _,
   fun _ _ _=>⟨rfl,rfl⟩,fun _ _=>rfl,fun _ h=>.inl ⟨h,rfl⟩,Nat.le_refl _,fun _ _=>rfl,fun _ h1 h2=>absurd h2 (by omega),fun b hb _ _ _=>⟨hheap b hb,rfl⟩⟩
 refine⟨hst,fun b hb=>hH.base b (by have:=hB.size;omega),hH.nb,hH.nt,hH.nl,fun k hk hh=> ?_,hH.μinj,hH.μlim,fun t ht=> ?_,hH.τinj,hH.μτ,fun l hl=> ?_,hH.linj,hH.glob.step hst⟩
 ·obtain⟨us,e,h,h1,h2⟩:=hH.box k hk hh
  exact⟨us,e,by rw[hheap _ (Array.getElem?_eq_some_iff.1 h).1];exact h,h1,fun i i1 i2=>(h2 i i1 i2).step hst⟩
 ·obtain⟨h0,us,e,h,h1⟩:=hH.tok t ht
  exact⟨h0,us,e,by rw[hheap _ (Array.getElem?_eq_some_iff.1 h).1];exact h,h1⟩
 ·obtain⟨rec,h,h1⟩:=hH.loop l hl
  exact⟨rec,by rw[hheap _ (Array.getElem?_eq_some_iff.1 h).1];exact h,h1.keep hst.keep⟩
theorem args_two{vs:Array Value}{x y:AV}(h:Args G w vs [x,y]):∃u v,vs= #[u,v]∧Rep G w u x∧Rep G w v y:=by
 obtain⟨h1,h2⟩:=h
 have hs:vs.size=2:=by simpa using h1
 refine⟨vs[0],vs[1],?_,by simpa using h2 0 (by omega) (by simp),by simpa using h2 1 (by omega) (by simp)⟩
 apply Array.ext
 ·simpa using hs
 ·intro i i1 i2
  have:i=0∨i=1:=by omega
  rcases this with rfl|rfl<;>rfl
theorem str_inv{v:Value}{s:List UInt8}(h:Rep G w v (.str s)):v=.string ⟨s.toArray⟩:=by cases h;rfl
def Enters(P:Program)(f:FuncId):Prop:=∀vs w,(callFunc f vs).run P w=.ok (.enter f vs) w
def trimE(xs:List AV)(H:Heap):Option (AV×Heap):=match xs with
 |[.str s,.str cs]=>if s.length≤9223372036854775807∧cs.length<4294967281∧cs.all (fun b=>decide (b.toNat<128))=true then some (.str (Lib.trimS s cs),H)else none
 |_=>none
def strsA:List AV→Option (List (List UInt8))
 |[]=>some []
 |.str s::xs=>(strsA xs).map (s::·)
 |_=>none
theorem ext_trim{f:FuncId}(hf:Enters P f)(h:∀(s cutset:ByteArray)(w:World),s.size≤9223372036854775807→cutset.size<4294967281→(∀(j:Nat)(b:UInt8),cutset.data.toList[j]?=some b→b.toNat<128)→
 Calls P f #[.string s,.string cutset] w fun e w'=>e=.returned (.string ⟨(Lib.trimS s.data.toList cutset.data.toList).toArray⟩)∧Below w.heap.size w w'):ExtOk P f trimE:=by
 intro xs H v H' hg G w vs hH hargs
 unfold trimE at hg
 split at hg
 ·rename_i s cs
  split at hg<;>simp only[Option.some.injEq,Prod.mk.injEq,reduceCtorEq]at hg
  rename_i hc
  obtain⟨rfl,rfl⟩:=hg
  obtain⟨u,u',rfl,h1,h2⟩:=args_two hargs
  cases str_inv h1
  cases str_inv h2
  refine .inl ⟨w,hf _ _,(h ⟨s.toArray⟩ ⟨cs.toArray⟩ w hc.1 hc.2.1 fun j b hb=> ?_).mono fun e w' hh=> ?_,rfl⟩
  ·have:=List.all_eq_true.1 hc.2.2 b (List.mem_of_getElem? hb)
   simpa using this
  ·obtain⟨rfl,hB⟩:=hh
   obtain⟨s1,s2⟩:=below_step hH hB
   exact⟨G,s1,s2,_,rfl,.str _⟩
 ·cases hg
theorem strsA_inv:∀{l:List AV}{ss:List (List UInt8)},strsA l=some ss→l=ss.map .str
 |[],ss,h=>by simp only[strsA,Option.some.injEq]at h;subst h;rfl
 |x::l,ss,h=>by
  cases x with
  |str s=>
   simp only[strsA]at h
   cases hl:strsA l with
   |none=>rw[hl]at h;cases h
   |some ss'=>
    rw[hl]at h
    simp only[Option.map_some,Option.some.injEq]at h
    subst h
    rw[strsA_inv hl];rfl
  |_=>cases h
end Go.Aa
set_option linter.unusedVariables false
set_option linter.unusedSimpArgs false
namespace Go.Aa
open Go.RowKit
variable{P:Program}{G:Ghost}{w w':World}{H:Heap}
def insS(x:List UInt8):List (List UInt8)→List (List UInt8)
 |[]=>[x]
 |y::l=>bif Op.bytesLess y x then y::insS x l else x::y::l
def isort:List (List UInt8)→List (List UInt8)
 |[]=>[]
 |x::l=>insS x (isort l)
theorem insS_perm(x:List UInt8):∀l,(insS x l).Perm (x::l)
 |[]=>.refl _
 |y::l=>by
  unfold insS
  cases Op.bytesLess y x
  ·exact .refl _
  ·exact((insS_perm x l).cons y).trans (.swap x y l)
theorem isort_perm:∀l,(isort l).Perm l
 |[]=>.refl _
 |x::l=>(insS_perm x _).trans ((isort_perm l).cons x)
theorem le_less{x y:List UInt8}(h:Op.bytesLess y x=false):x≤y:=by
 rw[Go.Proofs.bytesLess_eq]at h
 simpa using h
theorem insS_sorted(x:List UInt8):∀{l:List (List UInt8)},l.Pairwise (·≤·)→(insS x l).Pairwise (·≤·)
 |[],_=>by simp[insS]
 |y::l,h=>by
  have h1:∀{z},z∈l→y≤z:=fun hz=>List.rel_of_pairwise_cons h hz
  have h2:=List.Pairwise.of_cons h
  unfold insS
  cases hb:Op.bytesLess y x with
  |false=>
   refine List.Pairwise.cons (fun z hz=> ?_) h
   rcases List.mem_cons.1 hz with rfl|hz
   ·exact le_less hb
   ·exact List.le_trans (le_less hb) (h1 hz)
  |true=>
   refine List.Pairwise.cons (fun z hz=> ?_) (insS_sorted x h2)
   rcases List.mem_cons.1 ((insS_perm x l).mem_iff.1 hz)with rfl|hz
   ·rw[Go.Proofs.bytesLess_eq,decide_eq_true_eq]at hb
    exact List.le_of_lt hb
   ·exact h1 hz
theorem isort_sorted:∀l,(isort l).Pairwise (·≤·)
 |[]=>.nil
 |x::l=>insS_sorted x (isort_sorted l)
theorem isort_eq(l:List (List UInt8)):(l.mergeSort fun x y=>decide (x≤y))=isort l:=by
 refine List.Perm.eq_of_pairwise (le:=fun a b=>a≤b) (fun a b _ _ h1 h2=>List.le_antisymm h1 h2) ?_ (isort_sorted l) ((List.mergeSort_perm l _).trans (isort_perm l).symm)
 have:=List.pairwise_mergeSort (le:=fun x y:List UInt8=>decide (x≤y)) (fun a b c h1 h2=>by simp only[decide_eq_true_eq]at*;exact List.le_trans h1 h2)
  (fun a b=>by simp only[Bool.or_eq_true,decide_eq_true_eq];exact List.le_total a b) l
 exact this.imp fun h=>by simpa using h
theorem isort_length(l:List (List UInt8)):(isort l).length=l.length:=(isort_perm l).length_eq
def sortE(xs:List AV)(H:Heap):Option (AV×Heap):=match xs with
 |[.msl k off n es]=>match H.boxes[k]? with
  |some cs=>if off=0∧es=1∧0<n∧n≤cs.length∧n≤140737488355328 then(match strsA (cs.take n)with
   |some ss=>some (.tuple [],{H with boxes:=H.boxes.set k ((isort ss).map .str++cs.drop n)})
   |none=>none)else none
  |none=>none
 |[.sl _ []]=>some (.tuple [],H)
 |_=>none
theorem args_1{vs:Array Value}{x:AV}(h:Args G w vs [x]):∃u,vs= #[u]∧Rep G w u x:=by
 obtain⟨h1,h2⟩:=h
 have hs:vs.size=1:=by simpa using h1
 refine⟨vs[0],?_,by simpa using h2 0 (by omega) (by simp)⟩
 apply Array.ext
 ·simpa using hs
 ·intro i i1 i2
  have:i=0:=by omega
  subst this;rfl
theorem box_turn{k:Nat}{cs xs:List AV}{us us':Array Value}{e:TypeId}{vs:List Value}(hH:HRep P G w H)(hk:G.on k)(hcs:H.boxes[k]?=some cs)(hne:cs≠[])(hb:w.heap[G.μ k]?=some (.cells us e (0,0)))
 (hle:xs.length≤cs.length)(hvr:ARep G w vs xs)(hcell:xs.all cellOk=true)(hus:us'.toList=vs++us.toList.drop vs.length)
 (h1:w'.os=w.os)(h2:w'.tape=w.tape)(h3:w'.output=w.output)(h4:w.heap.size≤w'.heap.size)(h5:w'.heap[G.μ k]?=some (.cells us' e (0,0)))(h6:∀b,b<w.heap.size→b≠G.μ k→w'.heap[b]?=w.heap[b]?):
 Step G w G w'∧HRep P G w' {H with boxes:=H.boxes.set k (xs++cs.drop xs.length)}:=by
 obtain⟨w1,hr,s1,s2⟩:=write_box (off:=0) hH hk hcs hne (by omega) hvr hcell
 obtain⟨hlt,hcs'⟩:=List.getElem?_eq_some_iff.1 hcs
 obtain⟨us0,e0,hb0,⟨hsz,hmc⟩,-⟩:=hH.box k hlt hk.2
 rw[hb]at hb0
 simp only[Option.some.injEq,Obj.cells.injEq]at hb0
 obtain⟨rfl,rfl,-⟩:=hb0
 rw[hcs']at hsz
 have hone:∀c∈vs,c.oneCell'=true:=by
  intro c hc
  obtain⟨i,hi,rfl⟩:=List.getElem_of_mem hc
  have hi2:i<xs.length:=by rw[←hvr.1];exact hi
  exact(hvr.2 i hi hi2).one (List.all_eq_true.1 hcell _ (List.getElem_mem hi2))
 have hrun:=run_storeCells_at P (G.μ k) 0 e vs 0 us w hb (by have:=hvr.1;omega) hone
 simp only[Nat.add_zero,List.take_zero,List.nil_append,Nat.zero_add]at hrun
 rw[hrun]at hr
 simp only[Result.ok.injEq,true_and]at hr
 rw[←hus,Array.toArray_toList]at hr
 have e1:paste cs 0 xs=xs++cs.drop xs.length:=by rw[paste_spec _ _ _ (by omega)];simp
 rw[e1]at s2
 have hB:Below w1.heap.size w1 w':=by
  rw[←hr]
  refine⟨h1,h2,h3,by simpa using h4,fun b hb'=> ?_⟩
  by_cases eb:b=G.μ k
  ·subst eb
   rw[h5]
   exact(setRow_heap w (G.μ k) us us' e (0,0) hb).symm
  ·rw[setRow_other _ _ _ _ eb]
   exact h6 b (by simpa using hb') eb
 obtain⟨t1,t2⟩:=below_step s2 hB
 exact⟨s1.trans t1,t2⟩
theorem ext_sort {f : FuncId} (hf : Enters P f)
 (h0 : ∀ (a : Option Addr) (c : Nat) (w : World), Calls P f #[.slice a 0 c] w fun e w' => e = .returned (.tuple #[]) ∧ w' = w)
 (h : ∀ (blk off cap : Nat) (ss : List (List UInt8)) (w : World), Sort.Holds Proofs.encStr w blk off ss.toArray → blk < w.heap.size → ss.length < 4611686018427387904 →
   Calls P f #[.slice (some ⟨blk, off, none⟩) ss.length cap] w fun e w' => e = .returned (.tuple #[]) ∧ ∃ n os, w' = Sort.grow (Sort.putRow Proofs.encStr (Sort.ahead w n) blk off (ss.mergeSort fun x y => decide (x ≤ y)).toArray) os) : ExtOk P f sortE := by
 intro az H v H' hg G w vs hH hargs
 unfold sortE at hg
 split at hg
 · rename_i k off n es
   split at hg
   · rename_i cs hcs
     split at hg
     · rename_i hc
       obtain ⟨rfl, rfl, hn0, hn, hbig⟩ := hc
       split at hg
       · rename_i ss hss
         simp only [Option.some.injEq, Prod.mk.injEq] at hg
         obtain ⟨rfl, rfl⟩ := hg
         obtain ⟨u, rfl, hr⟩ := args_1 hargs
         cases hr with
         | msl _ _ _ c _ hk hnc hcm he0 hcap =>
         obtain ⟨hlt, hcs'⟩ := List.getElem?_eq_some_iff.1 hcs
         obtain ⟨us, e, hb, ⟨hsz, hmc⟩, hrep⟩ := hH.box k hlt hk.2
         rw [hcs'] at hsz hrep
         have hl := strsA_inv hss
         have hsl : ss.length = n := by
          have := congrArg List.length hl
          simp only [List.length_take, List.length_map] at this
          omega
         have hat : ∀ j (hj : j < ss.length), us[j]? = some (.string ⟨(ss[j]).toArray⟩) := fun j hj => by
          have h1 : (cs.take n)[j]? = some (.str ss[j]) := by rw [hl, List.getElem?_map, List.getElem?_eq_getElem hj]; rfl
          rw [List.getElem?_take, if_pos (by omega)] at h1
          obtain ⟨h2, h3⟩ := List.getElem?_eq_some_iff.1 h1
          have := hrep j (by omega) h2
          rw [h3] at this
          rw [Array.getElem?_eq_getElem (by omega), str_inv this]
         have hHo : Sort.Holds Proofs.encStr w (G.μ k) 0 ss.toArray := fun j hj => by
          have hj' : j < ss.length := by simpa using hj
          have h1 := hat j hj'
          constructor
          · simp only [World.cell?, hb, Option.isSome_none, Bool.false_eq_true, if_false, Nat.zero_add]
            rw [h1, getElem!_pos ss.toArray j hj]
            simp [Proofs.encStr]
          · simp [World.frozen?, hb]
         have hcall := h (G.μ k) 0 c ss w hHo (Array.getElem?_eq_some_iff.1 hb).1 (by omega)
         rw [hsl] at hcall
         refine .inl ⟨w, hf _ _, hcall.mono fun e1 w' hh => ?_, rfl⟩
         obtain ⟨rfl, m, os, rfl⟩ := hh
         rw [isort_eq]
         have hil := isort_length ss
         have hone : ∀ j (hj : j < (isort ss).length), ((isort ss).toArray)[j]! = (isort ss)[j] := fun j hj => by
          rw [getElem!_pos (isort ss).toArray j (by simpa using hj)]; simp
         obtain ⟨s1, s2⟩ := box_turn (w' := Sort.grow (Sort.putRow Proofs.encStr (Sort.ahead w m) (G.μ k) 0 (isort ss).toArray) os) (xs := (isort ss).map .str) (vs := (isort ss).map fun s => Value.string ⟨s.toArray⟩)
          (us' := Sort.putCells Proofs.encStr 0 (isort ss).toArray us) hH hk hcs (by intro e; rw [e] at hn; simp at hn; omega) hb (by simp; omega)
          ⟨by simp, fun i i1 i2 => by simp only [List.getElem_map]; exact .str _⟩ (List.all_eq_true.2 fun x hx => by obtain ⟨s, -, rfl⟩ := List.mem_map.1 hx; rfl)
          (by
            apply List.ext_getElem?
            intro q
            simp only [Sort.putCells, Array.getElem?_toList, Array.getElem?_mapIdx, List.size_toArray, Nat.zero_le, true_and, Nat.zero_add, Nat.sub_zero]
            by_cases hq : q < (isort ss).length
            · rw [List.getElem?_append_left (by simpa using hq)]
              rw [Array.getElem?_eq_getElem (by omega)]
              simp only [Option.map_some, if_pos hq, hone q hq, List.getElem?_map, List.getElem?_eq_getElem hq]
            · rw [List.getElem?_append_right (by simpa using hq)]
              simp only [List.length_map, List.getElem?_drop, Array.getElem?_toList]
              rw [show (isort ss).length + (q - (isort ss).length) = q by omega]
              cases us[q]? with
              | none => rfl
              | some x => simp [hq])
          rfl rfl rfl (by simp [Sort.grow, Sort.putRow, Sort.mapBlock, Sort.ahead])
          (by
            have hlt2 : G.μ k < (Sort.putRow Proofs.encStr (Sort.ahead w m) (G.μ k) 0 (isort ss).toArray).heap.size := by simp [Sort.putRow, Sort.mapBlock, Sort.ahead]; exact (Array.getElem?_eq_some_iff.1 hb).1
            rw [Sort.heap_grow_old _ _ hlt2]
            simp only [Sort.putRow, Sort.mapBlock, Sort.ahead, Array.getElem?_modify, if_true, hb, Option.map_some, Sort.onCells])
          (fun b hb1 hb2 => by
            have hlt2 : b < (Sort.putRow Proofs.encStr (Sort.ahead w m) (G.μ k) 0 (isort ss).toArray).heap.size := by simp [Sort.putRow, Sort.mapBlock, Sort.ahead]; exact hb1
            rw [Sort.heap_grow_old _ _ hlt2]
            simp only [Sort.putRow, Sort.mapBlock, Sort.ahead, Array.getElem?_modify, if_neg (Ne.symm hb2)])
         refine ⟨G, s1, ?_, _, rfl, .tuple _ _ rfl (fun i h1 => absurd h1 (by simp))⟩
         rw [List.length_map, hil, hsl] at s2
         exact s2
       · cases hg
     · cases hg
   · cases hg
 · simp only [Option.some.injEq, Prod.mk.injEq] at hg
   obtain ⟨rfl, rfl⟩ := hg
   obtain ⟨u, rfl, hr⟩ := args_1 hargs
   cases hr with
   | sl0 a c =>
     refine .inl ⟨w, hf _ _, (h0 a c w).mono fun e1 w' hh => ?_, rfl⟩
     obtain ⟨rfl, rfl⟩ := hh
     exact ⟨G, .refl _ _, hH, _, rfl, .tuple _ _ rfl (fun i h1 => absurd h1 (by simp))⟩
   | sl _ _ _ _ _ _ hl => exact absurd rfl hl
 · cases hg
end Go.Aa
set_option linter.unusedVariables false
set_option linter.unusedSimpArgs false
namespace Go.Aa
def cloneE(es bytes:Nat)(xs:List AV)(H:Heap):Option (AV×Heap):=match xs with
 |[.sl k l]=>appendMA es bytes H (.sl .full []) (.sl k l)
 |_=>none
def insE(es bytes:Nat)(xs:List AV)(H:Heap):Option (AV×Heap):=match xs with
 |[.msl k off n es1,.int .i64 i,.msl kv ov m es2]=>
  match H.boxes[k]?,H.boxes[kv]? with
  |some cs,some vs=>if(k≠kv∧off=0∧ov=0∧m=1∧es1=es∧es2=es∧0≤i∧i≤n)∧(n*es≤cs.length∧0<cs.length∧vs.length=es∧cs.all data0=true∧vs.all data0=true∧(n+1)*bytes≤140737488355328)then
    some (.msl H.boxes.length 0 (n+1) es,{H with boxes:=H.boxes.set k []++[cs.take (i.toNat*es)++vs++(cs.take (n*es)).drop (i.toNat*es)]})
   else none
  |_,_=>none
 |[.sl .nil [],.int .i64 i,.msl kv ov m es2]=>
  match H.boxes[kv]? with
  |some vs=>if ov=0∧m=1∧es2=es∧i=0∧vs.length=es∧vs.all data0=true∧bytes≤140737488355328 then some (.msl H.boxes.length 0 1 es,{H with boxes:=H.boxes++[vs]})else none
  |none=>none
 |_=>none
end Go.Aa
set_option linter.unusedVariables false
set_option linter.unusedSimpArgs false
namespace Go.Aa
open Go.RowKit
variable{P:Program}{G:Ghost}{w w':World}{H:Heap}
def cmpE(xs:List AV)(H:Heap):Option (AV×Heap):=match xs with
 |[.str a,.str b]=>some (.int .i64 (Lib.compareBytes a b),H)
 |_=>none
theorem args_three{a b c:AV}{vs:Array Value}(h:Args G w vs [a,b,c]):∃x y z,vs= #[x,y,z]∧Rep G w x a∧Rep G w y b∧Rep G w z c:=by
 obtain⟨hs,h2⟩:=h
 simp only[List.length_cons,List.length_nil]at hs
 refine⟨vs[0],vs[1],vs[2],?_,by simpa using h2 0 (by omega) (by simp),by simpa using h2 1 (by omega) (by simp),by simpa using h2 2 (by omega) (by simp)⟩
 apply Array.ext
 ·simpa using hs
 ·intro i i1 i2
  have:i=0∨i=1∨i=2:=by omega
  rcases this with rfl|rfl|rfl<;>rfl
theorem int_inv{v:Value}{k:IntKind}{n:Int}(h:Rep G w v (.int k n)):v=.int k n:=by cases h;rfl
theorem ext_cmp{f:FuncId}(hf:Enters P f)(h:∀(a b:ByteArray)(w:World),Calls P f #[.string a,.string b] w fun e w'=>e=.returned (.int .i64 (Lib.compareBytes a.data.toList b.data.toList))∧w'=w):ExtOk P f cmpE:=by
 intro xs H v H' hg G w vs hH hargs
 unfold cmpE at hg
 split at hg<;>simp only[Option.some.injEq,Prod.mk.injEq,reduceCtorEq]at hg
 rename_i a b
 obtain⟨rfl,rfl⟩:=hg
 obtain⟨u,u',rfl,h1,h2⟩:=args_two hargs
 cases str_inv h1
 cases str_inv h2
 refine .inl ⟨w,hf _ _,(h ⟨a.toArray⟩ ⟨b.toArray⟩ w).mono fun e w' hh=> ?_,rfl⟩
 obtain⟨rfl,rfl⟩:=hh
 exact⟨G,.refl _ _,hH,_,rfl,.int _ _⟩
end Go.Aa
set_option linter.unusedVariables false
set_option linter.unusedSimpArgs false
namespace Go.Aa
open Go.RowKit Go.ChangeShapes Go.WideShapes Go.ChangeAt
section
variable{H:Type}{enc:TypeId×Value→H}{P:Program}{w:World}{base:Nat}{sp:Nat→Bool}{held:Bool}{G:Ghost}
theorem mapM_len{α β:Type}{f:α→Option β}:∀{l:List α}{r:List β},l.mapM f=some r→r.length=l.length
 |[],r,h=>by cases h;rfl
 |x::l,r,h=>by
  rw[List.mapM_cons]at h
  cases hx:f x with
  |none=>rw[hx]at h;cases h
  |some y=>
   cases hl:l.mapM f with
   |none=>rw[hx,hl]at h;cases h
   |some ys=>
    rw[hx,hl]at h
    cases h
    simp[mapM_len hl]
theorem slice_sz{t e:TypeId}{v:Value}{d:DataW H}{ps:List MemPlace}{l:List AV}{k:SK}(hu:P.underlying t=some (.slice e))(hr:Rep G w v (.sl k l))(ht:DataW.Trod enc P w base sp held t v d ps)
 (hw:(d.weights P t).all (·≤reachBytes)=true):l.length*P.bytesOf e≤reachBytes:=by
 cases hr with
 |sl0=>simp
 |sl a c _ _ es us hl hc hcm hs hes he0 hd hlim hcell hrep hfull hown=>
  obtain⟨fuel,h⟩:=ht
  cases fuel with
  |zero=>cases h
  |succ fuel=>
   simp only[DataW.trod,hu,Value.cells]at h
   split at h
   ·cases he:(List.range l.length).mapM (fun i=>(w.cells? base (a.add (i*P.cellsOf e)) (P.cellsOf e)).bind (DataW.trod enc P w base sp held fuel e))with
    |none=>rw[he]at h;cases h
    |some elems=>
     rw[he,Option.bind_some,Option.map_eq_some_iff]at h
     obtain⟨rest,-,h⟩:=h
     cases h
     have e1:elems.length=l.length:=by rw[mapM_len he,List.length_range]
     simp only[DataW.weights,hu,List.all_cons,Bool.and_eq_true,decide_eq_true_eq,List.length_map]at hw
     have:=hw.1
     rw[e1]at this
     exact Nat.le_trans (Nat.mul_le_mul_right _ (Nat.le_add_right _ _)) this
   ·cases h
theorem str_sz{t:TypeId}{v:Value}{d:DataW H}{ps:List MemPlace}{s:List UInt8}(hu:P.underlying t=some .string)(hr:Rep G w v (.str s))(ht:DataW.Trod enc P w base sp held t v d ps)
 (hw:(d.weights P t).all (·≤reachBytes)=true):s.length≤reachBytes:=by
 cases hr with
 |str s=>
  obtain⟨fuel,h⟩:=ht
  cases fuel with
  |zero=>cases h
  |succ fuel=>
   simp only[DataW.trod,hu,Value.cells]at h
   split at h
   ·cases h
    simpa[DataW.weights]using hw
   ·cases h
def Sz1(P:Program)(t:TypeId)(x:AV):Prop:=(∀e k l,P.underlying t=some (.slice e)→x=.sl k l→l.length*P.bytesOf e≤reachBytes)∧(∀s,P.underlying t=some .string→x=.str s→s.length≤reachBytes)
def SzAll(P:Program):List TypeId→List AV→Prop
 |t::ts,x::xs=>Sz1 P t x∧SzAll P ts xs
 |_,_=>True
theorem all_sz:∀{ts us:List TypeId}{vs:List Value}{ds gs:List (DataW H)}{ps:List MemPlace}{xs:List AV},DataW.TrodAll enc P w base sp held ts vs ds ps→(DataW.weightsEach P (ts++us) (ds++gs)).all (·≤reachBytes)=true→
 (∀(i:Nat)v y,vs[i]?=some v→xs[i]?=some y→Rep G w v y)→SzAll P ts xs
 |[],_,_,_,_,_,_,_,_,_=>by unfold SzAll;trivial
 |t::ts,us,[],ds,gs,ps,xs,h,_,_=>h.elim
 |t::ts,us,v::vs,[],gs,ps,xs,h,_,_=>h.elim
 |t::ts,us,v::vs,d::ds,gs,ps,[],_,_,_=>by unfold SzAll;trivial
 |t::ts,us,v::vs,d::ds,gs,ps,x::xs,⟨p,q,h1,h2,_⟩,hw,hr=>by
  simp only[List.cons_append,DataW.weightsEach,List.all_append,Bool.and_eq_true]at hw
  refine⟨⟨fun e k l hu hx=> ?_,fun s hu hx=> ?_⟩,all_sz h2 hw.2 (fun i v y a b=>hr (i+1) v y a b)⟩
  ·subst hx;exact slice_sz hu (hr 0 _ _ rfl rfl) h1 hw.1
  ·subst hx;exact str_sz hu (hr 0 _ _ rfl rfl) h1 hw.1
theorem weights_left:∀{ts us:List TypeId}{ds gs:List (DataW H)},(DataW.weightsEach P (ts++us) (ds++gs)).all (·≤reachBytes)=true→(DataW.weightsEach P ts ds).all (·≤reachBytes)=true
 |[],_,_,_,_=>by simp[DataW.weightsEach]
 |_::_,_,[],_,_=>by simp[DataW.weightsEach]
 |t::ts,us,d::ds,gs,h=>by
  simp only[List.cons_append,DataW.weightsEach,List.all_append,Bool.and_eq_true]at h⊢
  exact⟨h.1,weights_left h.2⟩
theorem law_rowZ{cfg:Cfg}(hcfg:CfgOk P cfg){f:FuncId}(hF:(cfg.F f).isSome=true)(hx:cfg.ext f=none)(ht:cfg.tryF f=false){fn:Func}{s:ChangeSpec}{k:Nat}{tb:TypeId}{apart fresh handsOn again:Bool}
 (hpl:fn.params.toList.all (plainT P k)=true)(hrt:fn.resultTypes= #[tb])(hb:P.underlying tb=some .bool)(hsv:s.vars=[])
 (hfn:∀ds:List (DataW H),ds.length=fn.params.toList.length→s.fn H ds={results:=[.lit (.bool true)],args:=ds})
 (hlaw:∀xs,TyAll P k fn.params.toList xs→SzAll P fn.params.toList xs→∃H',lim cfg (.fn f) xs Heap.nil=some (.ret (.bool true),H'))
 {W:World}{base:Nat}{args:Array Value}{ds gs:List (DataW H)}{before:List MemPlace}
 (hval:∀(j:Nat)t v,fn.params[j]?=some t→args[j]?=some v→Value.okWide P W .any base t v)
 (hW:DataW.Whole enc P fn.params.toList s.vars apart W args.toList ds gs before)(hwt:(DataW.weightsEach P (fn.params.toList++s.plain.varTypes P) (ds++gs)).all (·≤reachBytes)=true)
 (hg:Glob0 P W:=by exact glob0_none (by kernel_rfl) W):
 Calls P f args W fun e W'=>∃v,e=.returned v∧s.post enc P fn apart fresh handsOn again W args v W':=by
 have hW':=hW
 obtain⟨p,q,hA,hV,rfl,hfz,hnd⟩:=hW
 rw[hsv]at hV
 obtain⟨rfl,rfl⟩:=trodVars_none hV
 rw[List.append_nil]at hW'
 obtain⟨xs,x1,x2,x3⟩:=all_rep (G:=GW W) GW_lim hpl (fun j t v a b=>hval j t v (by simpa using a) (by simpa using b)) hA (weights_left hwt)
 obtain⟨H',hl⟩:=hlaw xs x3 (all_sz hA hwt x2)
 obtain⟨n,hn⟩:=lim_iff.1 hl
 refine(calls_of hcfg hn hF hx ht (GW_heap W hg) ⟨by rw[x1];simp,fun i h1 h2=>x2 i _ _ (by simp[h1]) (List.getElem?_eq_getElem h2)⟩).mono fun e W'⟨u,G',he,hst,hr⟩=> ?_
 cases hr
 have hB:=step_below hst rfl rfl rfl
 obtain⟨l1,l2⟩:=all_len hA
 have hfn':=hfn ds l2
 refine⟨_,he,post_of_below (pa:=p) (pv:=[]) hW' ?_ ?_ ?_ (by simp) hB ?_⟩
 ·intro b sp hd
  rw[List.append_nil,hfn',hrt]
  exact trodAll_mk1 (shut_bool hb _)
 ·intro sp hsp
  rw[List.append_nil,hfn']
  exact all_shut hB hpl hsp hA
 ·intro sp hsp
  rw[List.append_nil,hfn',hsv]
  rfl
 ·exact ok_one hrt rfl (okWide_bool_mk hb _)
end
end Go.Aa
set_option linter.unusedVariables false
set_option maxRecDepth 100000
namespace Go.Aa.T
open Go.Aa
def extF:Nat→Option (List AV→Heap→Option (AV×Heap))
 |215=>some trimE
 |118=>some cmpE
 |204=>some sortE
 |119=>some (insE 11 184)
 |90=>some (cloneE 11 184)
 |_=>none
def isTry(f:Nat):Bool:=f==77
def cfg:Cfg:={F:=tabF,ext:=extF,tryF:=isTry,stopT:=212}
def okR:Option (ARes×Heap)→Bool
 |some (.ret (.bool b),_)=>b
 |_=>false
theorem known15:okR (callN cfg 3000 (.fn 15) [] Heap.nil)=true:=by kernel_rfl
theorem known_ret15:∃H',lim cfg (.fn 15) [] Heap.nil=some (.ret (.bool true),H'):=by
 have h:=known15
 unfold okR at h
 split at h
 ·rename_i b H' hc
  subst h
  exact⟨H',lim_of hc⟩
 ·cases h
theorem l14(xs:List AV)(H:Heap):lim cfg (.fn 14) xs H=runL cfg a14 [.c c14] (initEnv xs) H:=lim_fn rfl rfl rfl xs H
theorem l16(xs:List AV)(H:Heap):lim cfg (.fn 16) xs H=runL cfg a16 [.c c16] (initEnv xs) H:=lim_fn rfl rfl rfl xs H
theorem l17(xs:List AV)(H:Heap):lim cfg (.fn 17) xs H=runL cfg a17 [.c c17] (initEnv xs) H:=lim_fn rfl rfl rfl xs H
theorem l18(xs:List AV)(H:Heap):lim cfg (.fn 18) xs H=runL cfg a18 [.c c18] (initEnv xs) H:=lim_fn rfl rfl rfl xs H
theorem l19(xs:List AV)(H:Heap):lim cfg (.fn 19) xs H=runL cfg a19 [.c c19] (initEnv xs) H:=lim_fn rfl rfl rfl xs H
theorem l20(xs:List AV)(H:Heap):lim cfg (.fn 20) xs H=runL cfg a20 [.c c20] (initEnv xs) H:=lim_fn rfl rfl rfl xs H
theorem l21(xs:List AV)(H:Heap):lim cfg (.fn 21) xs H=runL cfg a21 [.c c21] (initEnv xs) H:=lim_fn rfl rfl rfl xs H
theorem l24(xs:List AV)(H:Heap):lim cfg (.fn 24) xs H=runL cfg a24 [.c c24] (initEnv xs) H:=lim_fn rfl rfl rfl xs H
theorem l27(xs:List AV)(H:Heap):lim cfg (.fn 27) xs H=runL cfg a27 [.c c27] (initEnv xs) H:=lim_fn rfl rfl rfl xs H
theorem l30(xs:List AV)(H:Heap):lim cfg (.fn 30) xs H=runL cfg a30 [.c c30] (initEnv xs) H:=lim_fn rfl rfl rfl xs H
theorem l31(xs:List AV)(H:Heap):lim cfg (.fn 31) xs H=runL cfg a31 [.c c31] (initEnv xs) H:=lim_fn rfl rfl rfl xs H
theorem l32(xs:List AV)(H:Heap):lim cfg (.fn 32) xs H=runL cfg a32 [.c c32] (initEnv xs) H:=lim_fn rfl rfl rfl xs H
theorem l33(xs:List AV)(H:Heap):lim cfg (.fn 33) xs H=runL cfg a33 [.c c33] (initEnv xs) H:=lim_fn rfl rfl rfl xs H
theorem l34(xs:List AV)(H:Heap):lim cfg (.fn 34) xs H=runL cfg a34 [.c c34] (initEnv xs) H:=lim_fn rfl rfl rfl xs H
theorem l36(xs:List AV)(H:Heap):lim cfg (.fn 36) xs H=runL cfg a36 [.c c36] (initEnv xs) H:=lim_fn rfl rfl rfl xs H
theorem l37(xs:List AV)(H:Heap):lim cfg (.fn 37) xs H=runL cfg a37 [.c c37] (initEnv xs) H:=lim_fn rfl rfl rfl xs H
theorem l39(xs:List AV)(H:Heap):lim cfg (.fn 39) xs H=runL cfg a39 [.c c39] (initEnv xs) H:=lim_fn rfl rfl rfl xs H
theorem l40(xs:List AV)(H:Heap):lim cfg (.fn 40) xs H=runL cfg a40 [.c c40] (initEnv xs) H:=lim_fn rfl rfl rfl xs H
theorem l41(xs:List AV)(H:Heap):lim cfg (.fn 41) xs H=runL cfg a41 [.c c41] (initEnv xs) H:=lim_fn rfl rfl rfl xs H
theorem l45(xs:List AV)(H:Heap):lim cfg (.fn 45) xs H=runL cfg a45 [.c c45] (initEnv xs) H:=lim_fn rfl rfl rfl xs H
theorem l52(xs:List AV)(H:Heap):lim cfg (.fn 52) xs H=runL cfg a52 [.c c52] (initEnv xs) H:=lim_fn rfl rfl rfl xs H
theorem l56(xs:List AV)(H:Heap):lim cfg (.fn 56) xs H=runL cfg a56 [.c c56] (initEnv xs) H:=lim_fn rfl rfl rfl xs H
theorem l57(xs:List AV)(H:Heap):lim cfg (.fn 57) xs H=runL cfg a57 [.c c57] (initEnv xs) H:=lim_fn rfl rfl rfl xs H
theorem l58(xs:List AV)(H:Heap):lim cfg (.fn 58) xs H=runL cfg a58 [.c c58] (initEnv xs) H:=lim_fn rfl rfl rfl xs H
theorem l59(xs:List AV)(H:Heap):lim cfg (.fn 59) xs H=runL cfg a59 [.c c59] (initEnv xs) H:=lim_fn rfl rfl rfl xs H
theorem l62(xs:List AV)(H:Heap):lim cfg (.fn 62) xs H=runL cfg a62 [.c c62] (initEnv xs) H:=lim_fn rfl rfl rfl xs H
theorem l63(xs:List AV)(H:Heap):lim cfg (.fn 63) xs H=runL cfg a63 [.c c63] (initEnv xs) H:=lim_fn rfl rfl rfl xs H
theorem l64(xs:List AV)(H:Heap):lim cfg (.fn 64) xs H=runL cfg a64 [.c c64] (initEnv xs) H:=lim_fn rfl rfl rfl xs H
theorem l65(xs:List AV)(H:Heap):lim cfg (.fn 65) xs H=runL cfg a65 [.c c65] (initEnv xs) H:=lim_fn rfl rfl rfl xs H
theorem l66(xs:List AV)(H:Heap):lim cfg (.fn 66) xs H=runL cfg a66 [.c c66] (initEnv xs) H:=lim_fn rfl rfl rfl xs H
theorem l67(xs:List AV)(H:Heap):lim cfg (.fn 67) xs H=runL cfg a67 [.c c67] (initEnv xs) H:=lim_fn rfl rfl rfl xs H
theorem l68(xs:List AV)(H:Heap):lim cfg (.fn 68) xs H=runL cfg a68 [.c c68] (initEnv xs) H:=lim_fn rfl rfl rfl xs H
theorem l69(xs:List AV)(H:Heap):lim cfg (.fn 69) xs H=runL cfg a69 [.c c69] (initEnv xs) H:=lim_fn rfl rfl rfl xs H
theorem l70(xs:List AV)(H:Heap):lim cfg (.fn 70) xs H=runL cfg a70 [.c c70] (initEnv xs) H:=lim_fn rfl rfl rfl xs H
theorem l71(xs:List AV)(H:Heap):lim cfg (.fn 71) xs H=runL cfg a71 [.c c71] (initEnv xs) H:=lim_fn rfl rfl rfl xs H
theorem l72(xs:List AV)(H:Heap):lim cfg (.fn 72) xs H=runL cfg a72 [.c c72] (initEnv xs) H:=lim_fn rfl rfl rfl xs H
theorem l73(xs:List AV)(H:Heap):lim cfg (.fn 73) xs H=runL cfg a73 [.c c73] (initEnv xs) H:=lim_fn rfl rfl rfl xs H
theorem l74(xs:List AV)(H:Heap):lim cfg (.fn 74) xs H=runL cfg a74 [.c c74] (initEnv xs) H:=lim_fn rfl rfl rfl xs H
theorem l75(xs:List AV)(H:Heap):lim cfg (.fn 75) xs H=runL cfg a75 [.c c75] (initEnv xs) H:=lim_fn rfl rfl rfl xs H
theorem l76(xs:List AV)(H:Heap):lim cfg (.fn 76) xs H=runL cfg a76 [.c c76] (initEnv xs) H:=lim_fn rfl rfl rfl xs H
theorem l78(xs:List AV)(H:Heap):lim cfg (.fn 78) xs H=runL cfg a78 [.c c78] (initEnv xs) H:=lim_fn rfl rfl rfl xs H
theorem l79(xs:List AV)(H:Heap):lim cfg (.fn 79) xs H=runL cfg a79 [.c c79] (initEnv xs) H:=lim_fn rfl rfl rfl xs H
theorem l80(xs:List AV)(H:Heap):lim cfg (.fn 80) xs H=runL cfg a80 [.c c80] (initEnv xs) H:=lim_fn rfl rfl rfl xs H
theorem l81(xs:List AV)(H:Heap):lim cfg (.fn 81) xs H=runL cfg a81 [.c c81] (initEnv xs) H:=lim_fn rfl rfl rfl xs H
theorem l82(xs:List AV)(H:Heap):lim cfg (.fn 82) xs H=runL cfg a82 [.c c82] (initEnv xs) H:=lim_fn rfl rfl rfl xs H
theorem l83(xs:List AV)(H:Heap):lim cfg (.fn 83) xs H=runL cfg a83 [.c c83] (initEnv xs) H:=lim_fn rfl rfl rfl xs H
theorem l84(xs:List AV)(H:Heap):lim cfg (.fn 84) xs H=runL cfg a84 [.c c84] (initEnv xs) H:=lim_fn rfl rfl rfl xs H
theorem l88(xs:List AV)(H:Heap):lim cfg (.fn 88) xs H=runL cfg a88 [.c c88] (initEnv xs) H:=lim_fn rfl rfl rfl xs H
theorem l89(xs:List AV)(H:Heap):lim cfg (.fn 89) xs H=runL cfg a89 [.c c89] (initEnv xs) H:=lim_fn rfl rfl rfl xs H
theorem l91(xs:List AV)(H:Heap):lim cfg (.fn 91) xs H=runL cfg a91 [.c c91] (initEnv xs) H:=lim_fn rfl rfl rfl xs H
theorem l95(xs:List AV)(H:Heap):lim cfg (.fn 95) xs H=runL cfg a95 [.c c95] (initEnv xs) H:=lim_fn rfl rfl rfl xs H
theorem l96(xs:List AV)(H:Heap):lim cfg (.fn 96) xs H=runL cfg a96 [.c c96] (initEnv xs) H:=lim_fn rfl rfl rfl xs H
theorem l97(xs:List AV)(H:Heap):lim cfg (.fn 97) xs H=runL cfg a97 [.c c97] (initEnv xs) H:=lim_fn rfl rfl rfl xs H
theorem l98(xs:List AV)(H:Heap):lim cfg (.fn 98) xs H=runL cfg a98 [.c c98] (initEnv xs) H:=lim_fn rfl rfl rfl xs H
theorem l99(xs:List AV)(H:Heap):lim cfg (.fn 99) xs H=runL cfg a99 [.c c99] (initEnv xs) H:=lim_fn rfl rfl rfl xs H
theorem l100(xs:List AV)(H:Heap):lim cfg (.fn 100) xs H=runL cfg a100 [.c c100] (initEnv xs) H:=lim_fn rfl rfl rfl xs H
theorem l101(xs:List AV)(H:Heap):lim cfg (.fn 101) xs H=runL cfg a101 [.c c101] (initEnv xs) H:=lim_fn rfl rfl rfl xs H
theorem l102(xs:List AV)(H:Heap):lim cfg (.fn 102) xs H=runL cfg a102 [.c c102] (initEnv xs) H:=lim_fn rfl rfl rfl xs H
theorem l103(xs:List AV)(H:Heap):lim cfg (.fn 103) xs H=runL cfg a103 [.c c103] (initEnv xs) H:=lim_fn rfl rfl rfl xs H
theorem l104(xs:List AV)(H:Heap):lim cfg (.fn 104) xs H=runL cfg a104 [.c c104] (initEnv xs) H:=lim_fn rfl rfl rfl xs H
theorem l105(xs:List AV)(H:Heap):lim cfg (.fn 105) xs H=runL cfg a105 [.c c105] (initEnv xs) H:=lim_fn rfl rfl rfl xs H
theorem l106(xs:List AV)(H:Heap):lim cfg (.fn 106) xs H=runL cfg a106 [.c c106] (initEnv xs) H:=lim_fn rfl rfl rfl xs H
theorem l107(xs:List AV)(H:Heap):lim cfg (.fn 107) xs H=runL cfg a107 [.c c107] (initEnv xs) H:=lim_fn rfl rfl rfl xs H
theorem l108(xs:List AV)(H:Heap):lim cfg (.fn 108) xs H=runL cfg a108 [.c c108] (initEnv xs) H:=lim_fn rfl rfl rfl xs H
theorem l109(xs:List AV)(H:Heap):lim cfg (.fn 109) xs H=runL cfg a109 [.c c109] (initEnv xs) H:=lim_fn rfl rfl rfl xs H
theorem l111(xs:List AV)(H:Heap):lim cfg (.fn 111) xs H=runL cfg a111 [.c c111] (initEnv xs) H:=lim_fn rfl rfl rfl xs H
theorem l112(xs:List AV)(H:Heap):lim cfg (.fn 112) xs H=runL cfg a112 [.c c112] (initEnv xs) H:=lim_fn rfl rfl rfl xs H
theorem l116(xs:List AV)(H:Heap):lim cfg (.fn 116) xs H=runL cfg a116 [.c c116] (initEnv xs) H:=lim_fn rfl rfl rfl xs H
theorem l117(xs:List AV)(H:Heap):lim cfg (.fn 117) xs H=runL cfg a117 [.c c117] (initEnv xs) H:=lim_fn rfl rfl rfl xs H
theorem l127(xs:List AV)(H:Heap):lim cfg (.fn 127) xs H=runL cfg a127 [.c c127] (initEnv xs) H:=lim_fn rfl rfl rfl xs H
theorem l128(xs:List AV)(H:Heap):lim cfg (.fn 128) xs H=runL cfg a128 [.c c128] (initEnv xs) H:=lim_fn rfl rfl rfl xs H
theorem l129(xs:List AV)(H:Heap):lim cfg (.fn 129) xs H=runL cfg a129 [.c c129] (initEnv xs) H:=lim_fn rfl rfl rfl xs H
theorem l131(xs:List AV)(H:Heap):lim cfg (.fn 131) xs H=runL cfg a131 [.c c131] (initEnv xs) H:=lim_fn rfl rfl rfl xs H
theorem l132(xs:List AV)(H:Heap):lim cfg (.fn 132) xs H=runL cfg a132 [.c c132] (initEnv xs) H:=lim_fn rfl rfl rfl xs H
theorem l133(xs:List AV)(H:Heap):lim cfg (.fn 133) xs H=runL cfg a133 [.c c133] (initEnv xs) H:=lim_fn rfl rfl rfl xs H
theorem l134(xs:List AV)(H:Heap):lim cfg (.fn 134) xs H=runL cfg a134 [.c c134] (initEnv xs) H:=lim_fn rfl rfl rfl xs H
theorem l135(xs:List AV)(H:Heap):lim cfg (.fn 135) xs H=runL cfg a135 [.c c135] (initEnv xs) H:=lim_fn rfl rfl rfl xs H
theorem l136(xs:List AV)(H:Heap):lim cfg (.fn 136) xs H=runL cfg a136 [.c c136] (initEnv xs) H:=lim_fn rfl rfl rfl xs H
theorem l137(xs:List AV)(H:Heap):lim cfg (.fn 137) xs H=runL cfg a137 [.c c137] (initEnv xs) H:=lim_fn rfl rfl rfl xs H
theorem l138(xs:List AV)(H:Heap):lim cfg (.fn 138) xs H=runL cfg a138 [.c c138] (initEnv xs) H:=lim_fn rfl rfl rfl xs H
theorem l139(xs:List AV)(H:Heap):lim cfg (.fn 139) xs H=runL cfg a139 [.c c139] (initEnv xs) H:=lim_fn rfl rfl rfl xs H
theorem l140(xs:List AV)(H:Heap):lim cfg (.fn 140) xs H=runL cfg a140 [.c c140] (initEnv xs) H:=lim_fn rfl rfl rfl xs H
theorem l141(xs:List AV)(H:Heap):lim cfg (.fn 141) xs H=runL cfg a141 [.c c141] (initEnv xs) H:=lim_fn rfl rfl rfl xs H
theorem l142(xs:List AV)(H:Heap):lim cfg (.fn 142) xs H=runL cfg a142 [.c c142] (initEnv xs) H:=lim_fn rfl rfl rfl xs H
theorem l143(xs:List AV)(H:Heap):lim cfg (.fn 143) xs H=runL cfg a143 [.c c143] (initEnv xs) H:=lim_fn rfl rfl rfl xs H
theorem l147(xs:List AV)(H:Heap):lim cfg (.fn 147) xs H=runL cfg a147 [.c c147] (initEnv xs) H:=lim_fn rfl rfl rfl xs H
theorem l148(xs:List AV)(H:Heap):lim cfg (.fn 148) xs H=runL cfg a148 [.c c148] (initEnv xs) H:=lim_fn rfl rfl rfl xs H
theorem l150(xs:List AV)(H:Heap):lim cfg (.fn 150) xs H=runL cfg a150 [.c c150] (initEnv xs) H:=lim_fn rfl rfl rfl xs H
theorem l151(xs:List AV)(H:Heap):lim cfg (.fn 151) xs H=runL cfg a151 [.c c151] (initEnv xs) H:=lim_fn rfl rfl rfl xs H
theorem l152(xs:List AV)(H:Heap):lim cfg (.fn 152) xs H=runL cfg a152 [.c c152] (initEnv xs) H:=lim_fn rfl rfl rfl xs H
theorem l153(xs:List AV)(H:Heap):lim cfg (.fn 153) xs H=runL cfg a153 [.c c153] (initEnv xs) H:=lim_fn rfl rfl rfl xs H
theorem l154(xs:List AV)(H:Heap):lim cfg (.fn 154) xs H=runL cfg a154 [.c c154] (initEnv xs) H:=lim_fn rfl rfl rfl xs H
theorem l155(xs:List AV)(H:Heap):lim cfg (.fn 155) xs H=runL cfg a155 [.c c155] (initEnv xs) H:=lim_fn rfl rfl rfl xs H
theorem l156(xs:List AV)(H:Heap):lim cfg (.fn 156) xs H=runL cfg a156 [.c c156] (initEnv xs) H:=lim_fn rfl rfl rfl xs H
theorem l157(xs:List AV)(H:Heap):lim cfg (.fn 157) xs H=runL cfg a157 [.c c157] (initEnv xs) H:=lim_fn rfl rfl rfl xs H
theorem l162(xs:List AV)(H:Heap):lim cfg (.fn 162) xs H=runL cfg a162 [.c c162] (initEnv xs) H:=lim_fn rfl rfl rfl xs H
theorem l166(xs:List AV)(H:Heap):lim cfg (.fn 166) xs H=runL cfg a166 [.c c166] (initEnv xs) H:=lim_fn rfl rfl rfl xs H
theorem l167(xs:List AV)(H:Heap):lim cfg (.fn 167) xs H=runL cfg a167 [.c c167] (initEnv xs) H:=lim_fn rfl rfl rfl xs H
theorem l168(xs:List AV)(H:Heap):lim cfg (.fn 168) xs H=runL cfg a168 [.c c168] (initEnv xs) H:=lim_fn rfl rfl rfl xs H
theorem l169(xs:List AV)(H:Heap):lim cfg (.fn 169) xs H=runL cfg a169 [.c c169] (initEnv xs) H:=lim_fn rfl rfl rfl xs H
theorem l170(xs:List AV)(H:Heap):lim cfg (.fn 170) xs H=runL cfg a170 [.c c170] (initEnv xs) H:=lim_fn rfl rfl rfl xs H
theorem l171(xs:List AV)(H:Heap):lim cfg (.fn 171) xs H=runL cfg a171 [.c c171] (initEnv xs) H:=lim_fn rfl rfl rfl xs H
theorem l172(xs:List AV)(H:Heap):lim cfg (.fn 172) xs H=runL cfg a172 [.c c172] (initEnv xs) H:=lim_fn rfl rfl rfl xs H
theorem l173(xs:List AV)(H:Heap):lim cfg (.fn 173) xs H=runL cfg a173 [.c c173] (initEnv xs) H:=lim_fn rfl rfl rfl xs H
theorem l174(xs:List AV)(H:Heap):lim cfg (.fn 174) xs H=runL cfg a174 [.c c174] (initEnv xs) H:=lim_fn rfl rfl rfl xs H
theorem l175(xs:List AV)(H:Heap):lim cfg (.fn 175) xs H=runL cfg a175 [.c c175] (initEnv xs) H:=lim_fn rfl rfl rfl xs H
theorem l176(xs:List AV)(H:Heap):lim cfg (.fn 176) xs H=runL cfg a176 [.c c176] (initEnv xs) H:=lim_fn rfl rfl rfl xs H
theorem l177(xs:List AV)(H:Heap):lim cfg (.fn 177) xs H=runL cfg a177 [.c c177] (initEnv xs) H:=lim_fn rfl rfl rfl xs H
theorem l178(xs:List AV)(H:Heap):lim cfg (.fn 178) xs H=runL cfg a178 [.c c178] (initEnv xs) H:=lim_fn rfl rfl rfl xs H
theorem l179(xs:List AV)(H:Heap):lim cfg (.fn 179) xs H=runL cfg a179 [.c c179] (initEnv xs) H:=lim_fn rfl rfl rfl xs H
theorem l180(xs:List AV)(H:Heap):lim cfg (.fn 180) xs H=runL cfg a180 [.c c180] (initEnv xs) H:=lim_fn rfl rfl rfl xs H
theorem l181(xs:List AV)(H:Heap):lim cfg (.fn 181) xs H=runL cfg a181 [.c c181] (initEnv xs) H:=lim_fn rfl rfl rfl xs H
theorem l182(xs:List AV)(H:Heap):lim cfg (.fn 182) xs H=runL cfg a182 [.c c182] (initEnv xs) H:=lim_fn rfl rfl rfl xs H
theorem l183(xs:List AV)(H:Heap):lim cfg (.fn 183) xs H=runL cfg a183 [.c c183] (initEnv xs) H:=lim_fn rfl rfl rfl xs H
theorem l185(xs:List AV)(H:Heap):lim cfg (.fn 185) xs H=runL cfg a185 [.c c185] (initEnv xs) H:=lim_fn rfl rfl rfl xs H
theorem l192(xs:List AV)(H:Heap):lim cfg (.fn 192) xs H=runL cfg a192 [.c c192] (initEnv xs) H:=lim_fn rfl rfl rfl xs H
theorem l193(xs:List AV)(H:Heap):lim cfg (.fn 193) xs H=runL cfg a193 [.c c193] (initEnv xs) H:=lim_fn rfl rfl rfl xs H
theorem l194(xs:List AV)(H:Heap):lim cfg (.fn 194) xs H=runL cfg a194 [.c c194] (initEnv xs) H:=lim_fn rfl rfl rfl xs H
theorem l195(xs:List AV)(H:Heap):lim cfg (.fn 195) xs H=runL cfg a195 [.c c195] (initEnv xs) H:=lim_fn rfl rfl rfl xs H
theorem l196(xs:List AV)(H:Heap):lim cfg (.fn 196) xs H=runL cfg a196 [.c c196] (initEnv xs) H:=lim_fn rfl rfl rfl xs H
theorem l197(xs:List AV)(H:Heap):lim cfg (.fn 197) xs H=runL cfg a197 [.c c197] (initEnv xs) H:=lim_fn rfl rfl rfl xs H
theorem l198(xs:List AV)(H:Heap):lim cfg (.fn 198) xs H=runL cfg a198 [.c c198] (initEnv xs) H:=lim_fn rfl rfl rfl xs H
theorem l199(xs:List AV)(H:Heap):lim cfg (.fn 199) xs H=runL cfg a199 [.c c199] (initEnv xs) H:=lim_fn rfl rfl rfl xs H
theorem l200(xs:List AV)(H:Heap):lim cfg (.fn 200) xs H=runL cfg a200 [.c c200] (initEnv xs) H:=lim_fn rfl rfl rfl xs H
theorem l201(xs:List AV)(H:Heap):lim cfg (.fn 201) xs H=runL cfg a201 [.c c201] (initEnv xs) H:=lim_fn rfl rfl rfl xs H
theorem l202(xs:List AV)(H:Heap):lim cfg (.fn 202) xs H=runL cfg a202 [.c c202] (initEnv xs) H:=lim_fn rfl rfl rfl xs H
theorem l203(xs:List AV)(H:Heap):lim cfg (.fn 203) xs H=runL cfg a203 [.c c203] (initEnv xs) H:=lim_fn rfl rfl rfl xs H
theorem l205(xs:List AV)(H:Heap):lim cfg (.fn 205) xs H=runL cfg a205 [.c c205] (initEnv xs) H:=lim_fn rfl rfl rfl xs H
theorem l211(xs:List AV)(H:Heap):lim cfg (.fn 211) xs H=runL cfg a211 [.c c211] (initEnv xs) H:=lim_fn rfl rfl rfl xs H
theorem l212(xs:List AV)(H:Heap):lim cfg (.fn 212) xs H=runL cfg a212 [.c c212] (initEnv xs) H:=lim_fn rfl rfl rfl xs H
theorem l216(xs:List AV)(H:Heap):lim cfg (.fn 216) xs H=runL cfg a216 [.c c216] (initEnv xs) H:=lim_fn rfl rfl rfl xs H
theorem l219(xs:List AV)(H:Heap):lim cfg (.fn 219) xs H=runL cfg a219 [.c c219] (initEnv xs) H:=lim_fn rfl rfl rfl xs H
theorem l220(xs:List AV)(H:Heap):lim cfg (.fn 220) xs H=runL cfg a220 [.c c220] (initEnv xs) H:=lim_fn rfl rfl rfl xs H
theorem l240(xs:List AV)(H:Heap):lim cfg (.fn 240) xs H=runL cfg a240 [.c c240] (initEnv xs) H:=lim_fn rfl rfl rfl xs H
end Go.Aa.T
set_option linter.unusedVariables false
set_option maxRecDepth 100000
namespace Go.Aa.T
open Go.Aa
def k14_0:List AIt:=[.lp b14_0,.blk 0,.c (.seq (rG [oP 4 (.mov (.c (.bool true)))]) .ret)]
def k24_0:List AIt:=[.lp b24_0,.blk 0,.c (.seq (rG [mV 27 5,mV 4 27]) .ret)]
def k30_0:List AIt:=[.lp b30_0,.blk 0,.c (.seq (.seq (rG [oP 4 (.mov (.c (.int .i64 0)))]) (.block 2 (.loop (.seq (.seq (rG [mV 35 4,oP 36 (.fld 1 1 (.t 1)),oP 37 (.load false 1 (.t 36)),oP 38 (.len false (.t 37)),oP 39 (.bin .lss (.t 35) (.t 38))]) (.cond (.t 39) .skip (.exit 2))) (.seq (.block 3 (.seq (rG [oP 42 (.fld 1 1 (.t 1)),oP 43 (.load false 1 (.t 42)),mV 44 4,oP 45 (.idx 11 (.t 43) (.t 44)),oP 46 (.load true 11 (.t 45)),oP 47 (.call (.c (.func 17 [])) [(.t 46)]),oP 48 (.un .not (.t 47))]) (.cond (.t 48) (.seq (rG [oP 2 (.mov (.c (.bool false)))]) .ret) .skip))) (rG [mV 40 4,oP 41 (.bin .add (.t 40) (.c (.int .i64 1))),mV 4 41])))))) (.seq (rG [oP 2 (.mov (.c (.bool true)))]) .ret))]
def k30_1:List AIt:=[.lp b30_1,.blk 2,.c (.seq (rG [oP 2 (.mov (.c (.bool true)))]) .ret)]
def k31_0:List AIt:=[.lp b31_0,.blk 0,.c (.seq (.seq (rG [oP 7 (.mov (.c (.int .i64 0)))]) (.block 2 (.loop (.seq (.seq (rG [mV 56 7,oP 57 (.fld 0 1 (.t 1)),oP 58 (.load false 1 (.t 57)),oP 59 (.len false (.t 58)),oP 60 (.bin .lss (.t 56) (.t 59))]) (.cond (.t 60) .skip (.exit 2))) (.seq (.block 3 (.seq (.region [oP 64 (.load true 3 (.t 1)),oP 65 (.fld 0 1 (.t 1)),⟨some 66,.load false 1 (.t 65),none,[1]⟩,mV 67 7,⟨some 68,.idx 5 (.t 66) (.t 67),none,[3,1,2]⟩,⟨some 69,.fld 0 1 (.t 68),none,[2,1,3,4]⟩,⟨some 70,.load false 1 (.t 69),none,[4,3,1,2,5]⟩,⟨some 71,.call (.c (.func 34 [])) [(.t 64),(.t 70)],none,[5,2,1,3,4,6,0]⟩,⟨some 63,.mov (.t 71),none,[0,6,4,3,1,2,5,7]⟩,⟨some 72,.extract (.t 63) 0,none,[7,5,2,1,3,4,6,0,8]⟩,⟨some 73,.extract (.t 63) 1,none,[7,5,2,1,3,4,6,0,8]⟩,⟨some 8,.mov (.t 72),none,[8,0,6,4,3,1,2,5,7,9]⟩,⟨some 9,.mov (.t 73),none,[9,11,8,0,6,4,3,1,2,5,7,10]⟩] true) (.seq (.seq (rG [mV 74 9,oP 75 (.bin .neq (.t 74) (.c (.int .i64 0)))]) (.cond (.t 75) (.seq (rG [mV 76 9,mV 2 76]) .ret) .skip)) (.seq (rG [mV 77 8,oP 78 (.fld 0 1 (.t 1)),oP 79 (.load false 1 (.t 78)),mV 80 7,oP 81 (.idx 5 (.t 79) (.t 80)),oP 82 (.fld 1 1 (.t 81)),oP 83 (.load false 1 (.t 82)),oP 84 (.call (.c (.func 88 [])) [(.t 77),(.t 83)]),oP 85 (.un .not (.t 84))]) (.cond (.t 85) (.seq (rG [oP 2 (.mov (.c (.int .i64 7)))]) .ret) .skip))))) (rG [mV 61 7,oP 62 (.bin .add (.t 61) (.c (.int .i64 1))),mV 7 62])))))) (.seq (rG [oP 87 (.load true 3 (.t 1)),oP 88 (.call (.c (.func 40 [])) [(.t 87)]),mV 86 88,oP 89 (.extract (.t 86) 0),oP 90 (.extract (.t 86) 1),mV 3 90]) (.seq (rG [mV 91 3,mV 2 91]) .ret)))]
def k31_1:List AIt:=[.lp b31_1,.blk 2,.c (.seq (rG [oP 87 (.load true 3 (.t 1)),oP 88 (.call (.c (.func 40 [])) [(.t 87)]),mV 86 88,oP 89 (.extract (.t 86) 0),oP 90 (.extract (.t 86) 1),mV 3 90]) (.seq (rG [mV 91 3,mV 2 91]) .ret))]
def k34_0:List AIt:=[.lp b34_0,.blk 0,.c (.seq (rG [mV 51 8,mV 4 51,oP 5 (.mov (.c (.int .i64 0)))]) .ret)]
def k36_0:List AIt:=[.lp b36_0,.blk 0,.c (.seq (rG [mV 25 3,mV 2 25]) .ret)]
def k40_0:List AIt:=[.lp b40_0,.blk 0,.c (.seq (rG [mV 30 4,mV 2 30,oP 3 (.mov (.c (.int .i64 0)))]) .ret)]
def k41_0:List AIt:=[.lp b41_0,.blk 0,.c (.seq (rG [mV 28 5,mV 4 28]) .ret)]
def k56_0:List AIt:=[.lp b56_0,.blk 0,.c (.seq (rG [oP 4 (.mov (.c (.int .i64 0)))]) .ret)]
def k62_0:List AIt:=[.lp b62_0,.blk 0,.c (.seq (rG [oP 2 (.mov (.c (.bool true)))]) .ret)]
def k63_0:List AIt:=[.lp b63_0,.blk 0,.c (.seq (rG [oP 2 (.mov (.c (.bool true)))]) .ret)]
def k64_0:List AIt:=[.lp b64_0,.blk 0,.c (.seq (rG [oP 2 (.mov (.c (.bool true)))]) .ret)]
def k65_0:List AIt:=[.lp b65_0,.blk 0,.c (.seq (rG [oP 2 (.mov (.c (.bool true)))]) .ret)]
def k66_0:List AIt:=[.lp b66_0,.blk 0,.c (.seq (rG [oP 2 (.mov (.c (.bool true)))]) .ret)]
def k67_0:List AIt:=[.lp b67_0,.blk 0,.c (.seq (rG [oP 2 (.mov (.c (.int .i64 0)))]) .ret)]
def k68_0:List AIt:=[.lp b68_0,.blk 0,.c (.seq (rG [oP 2 (.mov (.c (.int .i64 0)))]) .ret)]
def k69_0:List AIt:=[.lp b69_0,.blk 0,.c (.seq (rG [oP 2 (.mov (.c (.int .i64 0)))]) .ret)]
def k70_0:List AIt:=[.lp b70_0,.blk 0,.c (.seq (rG [oP 2 (.mov (.c (.int .i64 0)))]) .ret)]
def k71_0:List AIt:=[.lp b71_0,.blk 0,.c (.seq (rG [mV 25 3,mV 2 25]) .ret)]
def k72_0:List AIt:=[.lp b72_0,.blk 0,.c (.seq (rG [mV 30 3,mV 2 30]) .ret)]
def k73_0:List AIt:=[.lp b73_0,.blk 0,.c (.seq (rG [mV 30 3,mV 2 30]) .ret)]
def k74_0:List AIt:=[.lp b74_0,.blk 0,.c (.seq (rG [mV 19 3,mV 2 19]) .ret)]
def k75_0:List AIt:=[.lp b75_0,.blk 0,.c (.seq (rG [mV 19 3,mV 2 19]) .ret)]
def k76_0:List AIt:=[.lp b76_0,.blk 0,.c (.seq (rG [mV 19 3,mV 2 19]) .ret)]
def k79_0:List AIt:=[.lp b79_0,.blk 0,.c (.seq (rG [oP 20 (.build [(.str []),(.sl .full []),(.sl .full []),(.sl .full []),(.bool false)] []),⟨none,.store 5 (.t 4) (.t 20),none,[]⟩,oP 5 (.mov (.c (.bool false)))]) .ret)]
def k82_0:List AIt:=[.lp b82_0,.blk 0,.c (.seq (rG [oP 24 (.build [(.str []),(.str []),(.bool false)] []),⟨none,.store 3 (.t 4) (.t 24),none,[]⟩,oP 5 (.mov (.c (.bool false)))]) .ret)]
def k84_0:List AIt:=[.lp b84_0,.blk 0,.c (.seq (rG [oP 24 (.build [(.str []),(.sl .full []),(.sl .full []),(.sl .full []),(.bool false)] []),⟨none,.store 5 (.t 4) (.t 24),none,[]⟩,oP 5 (.mov (.c (.bool false)))]) .ret)]
def k88_0:List AIt:=[.lp b88_0,.blk 0,.c (.seq (rG [oP 4 (.mov (.c (.bool true)))]) .ret)]
def k89_0:List AIt:=[.lp b89_0,.blk 0,.c (.seq (rG [mV 36 0,mV 37 5,oP 38 (.slice 11 (.t 36) (some (.t 37)) none none),⟨none,.clearM [(.str []),(.str []),(.int .i64 0),(.sl .full []),(.sl .full []),(.sl .full []),(.sl .full []),(.str []),(.int .i64 0),(.str []),(.bool false)] (.t 38),none,[]⟩]) (.seq (rG [mV 39 0,mV 40 5,oP 41 (.slice 11 (.t 39) none (some (.t 40)) none),mV 4 41]) .ret))]
def k95_0:List AIt:=[.lp b95_0,.blk 0,.c (.seq (rG [oP 2 (.mov (.c (.bool true)))]) .ret)]
def k97_0:List AIt:=[.lp b97_0,.blk 0,.c (.seq (rG [oP 2 (.mov (.c (.int .i64 0)))]) .ret)]
def k98_0:List AIt:=[.lp b98_0,.blk 0,.c (.seq (rG [oP 2 (.mov (.c (.int .i64 0)))]) .ret)]
def k99_0:List AIt:=[.lp b99_0,.blk 0,.c (.seq (rG [oP 2 (.mov (.c (.int .i64 0)))]) .ret)]
def k100_0:List AIt:=[.lp b100_0,.blk 0,.c (.seq (.seq (rG [oP 43 (.fld 0 1 (.t 0)),oP 44 (.load false 1 (.t 43)),oP 45 (.len false (.t 44)),oP 46 (.mov (.c (.int .i64 0)))]) (.block 2 (.loop (.seq (rG [oP 47 (.bin .lss (.t 46) (.t 45))]) (.seq (.cond (.t 47) .skip (.exit 2)) (.seq (.block 3 (.seq (rG [oP 48 (.idx 5 (.t 44) (.t 46)),oP 49 (.load true 5 (.t 48)),oP 6 (.box (.c (.agg [(.str []),(.sl .full []),(.sl .full []),(.sl .full []),(.bool false)]))),⟨none,.store 5 (.t 6) (.t 49),none,[]⟩]) (.seq (.region [oP 50 (.load true 3 (.t 0)),oP 51 (.fld 0 1 (.t 6)),⟨some 52,.load false 1 (.t 51),none,[1]⟩,⟨some 53,.call (.c (.func 33 [])) [(.t 50),(.t 52)],none,[1,2,0]⟩,⟨some 54,.extract (.t 53) 0,none,[0,2,1,3]⟩,⟨some 55,.extract (.t 53) 1,none,[0,2,1,3]⟩,⟨some 56,.call (.c (.func 105 [])) [(.t 54),(.t 55)],none,[5,3,1,2,0,4]⟩,oP 57 (.fld 1 1 (.t 6)),⟨some 58,.load false 1 (.t 57),none,[7]⟩,⟨some 59,.call (.c (.func 58 [])) [(.t 56),(.t 58)],none,[7,8,4,0,2,1,3,5,6]⟩,⟨some 60,.un .not (.t 59),none,[6,5,3,1,2,0,4,8,7,9]⟩] true) (.cond (.t 60) (rG [oP 61 (.call (.c (.func 101 [])) [(.c (.int .i64 7))])]) .skip)))) (rG [oP 62 (.bin .add (.t 46) (.c (.int .i64 1))),mV 46 62]))))))) (rG [oP 63 (.load true 3 (.t 0)),oP 64 (.call (.c (.func 39 [])) [(.t 63)]),oP 65 (.extract (.t 64) 0),oP 66 (.extract (.t 64) 1),oP 67 (.call (.c (.func 105 [])) [(.t 65),(.t 66)])]))]
def k100_1:List AIt:=[.lp b100_1,.blk 2,.c (rG [oP 63 (.load true 3 (.t 0)),oP 64 (.call (.c (.func 39 [])) [(.t 63)]),oP 65 (.extract (.t 64) 0),oP 66 (.extract (.t 64) 1),oP 67 (.call (.c (.func 105 [])) [(.t 65),(.t 66)])])]
def k108_0:List AIt:=[.lp b108_0,.blk 0,.c (.seq (rG [mV 55 8,oP 56 (.call (.c (.func 181 [])) [(.t 55)]),oP 57 (.extract (.t 56) 0),oP 58 (.extract (.t 56) 1),mV 4 57,mV 5 58]) .ret)]
def k116_0:List AIt:=[.lp b116_0,.blk 0,.c (.seq (rG [mV 35 9,mV 36 9,mV 37 8,oP 38 (.bin .lss (.t 36) (.t 37)),mV 39 38,⟨some 40,.mov (.t 2),some (39,true),[]⟩,⟨some 41,.mov (.t 0),some (39,true),[]⟩,⟨some 42,.mov (.t 9),some (39,true),[]⟩,⟨some 43,.idx 11 (.t 41) (.t 42),some (39,true),[]⟩,⟨some 44,.load true 11 (.t 43),some (39,true),[]⟩,⟨some 45,.mov (.t 1),some (39,true),[]⟩,⟨some 46,.call (.t 40) [(.t 44),(.t 45)],some (39,true),[]⟩,⟨some 47,.bin .eql (.t 46) (.c (.int .i64 0)),some (39,true),[]⟩,oP 48 (.pick (.t 39) (.t 47) (.c (.bool false))),mV 6 35,mV 7 48]) .ret)]
def k131_0:List AIt:=[.lp b131_0,.blk 0,.c (.seq (rG [oP 4 (.mov (.c (.int .i64 (-1))))]) .ret)]
def k135_0:List AIt:=[.lp b135_0,.blk 0,.c (.seq (rG [oP 2 (.mov (.c (.int .i64 0)))]) .ret)]
def k139_0:List AIt:=[.lp b139_0,.blk 0,.c (.seq (rG [oP 2 (.mov (.c (.int .i64 0)))]) .ret)]
def k140_0:List AIt:=[.lp b140_0,.blk 0,.c (.seq (rG [oP 2 (.mov (.c (.int .i64 0)))]) .ret)]
def k141_0:List AIt:=[.lp b141_0,.blk 0,.c (.seq (rG [oP 2 (.mov (.c (.int .i64 0)))]) .ret)]
def k142_0:List AIt:=[.lp b142_0,.blk 0,.c (.seq (rG [oP 2 (.mov (.c (.int .i64 0)))]) .ret)]
def k154_0:List AIt:=[.lp b154_0,.blk 0,.c (rG [mV 39 5,mV 40 6,oP 41 (.bin .sub (.t 39) (.t 40)),⟨none,.store 1 (.t 3) (.t 41),none,[]⟩])]
def k156_0:List AIt:=[.lp b156_0,.blk 0,.c (.seq (rG [mV 49 7,mV 6 49]) .ret)]
def k157_0:List AIt:=[.lp b157_0,.blk 0,.c (.seq (rG [mV 30 5,oP 31 (.callM (.c (.func 204 [])) [(.t 30)])]) (.seq (rG [mV 32 5,oP 33 (.callM (.c (.func 205 [])) [(.t 32)]),mV 4 33]) .ret))]
def k162_0:List AIt:=[.lp b162_0,.blk 0,.c (.seq (rG [oP 4 (.mov (.c (.int .i64 (-1))))]) .ret)]
def k166_0:List AIt:=[.lp b166_0,.blk 0,.c (.seq (rG [oP 2 (.mov (.c (.bool true)))]) .ret)]
def k169_0:List AIt:=[.lp b169_0,.blk 0,.c (.seq (rG [oP 8 (.mov (.c (.int .i64 0)))]) .ret)]
def k172_0:List AIt:=[.lp b172_0,.blk 0,.c (.seq (rG [oP 8 (.mov (.c (.int .i64 0)))]) .ret)]
def k174_0:List AIt:=[.lp b174_0,.blk 0,.c (.seq (rG [oP 8 (.mov (.c (.int .i64 0)))]) .ret)]
def k177_0:List AIt:=[.lp b177_0,.blk 0]
def k179_0:List AIt:=[.lp b179_0,.blk 0,.c (.seq (rG [mV 92 5,mV 4 92]) .ret)]
def k185_0:List AIt:=[.lp b185_0,.blk 0]
def k192_0:List AIt:=[.lp b192_0,.blk 0,.c (.seq (.seq (rG [oP 19 (.load false 1 (.t 0)),oP 20 (.call (.c (.func 193 [])) [(.t 19)]),oP 21 (.len false (.t 20)),oP 22 (.mov (.c (.int .i64 0)))]) (.block 2 (.loop (.seq (rG [oP 23 (.bin .lss (.t 22) (.t 21))]) (.seq (.cond (.t 23) .skip (.exit 2)) (.seq (.block 3 (.seq (rG [oP 24 (.idx 1 (.t 20) (.t 22)),oP 25 (.load false 1 (.t 24)),mV 6 25]) (.seq (rG [oP 27 (.load false 1 (.t 1)),mV 28 6,oP 29 (.call (.t 27) [(.t 28)]),mV 26 29,oP 30 (.extract (.t 26) 0),oP 31 (.extract (.t 26) 1),mV 7 30,mV 8 31]) (.seq (rG [mV 32 8,oP 33 (.call (.c (.func 101 [])) [(.t 32)])]) (.seq (rG [mV 34 7,oP 35 (.bin .gtr (.t 34) (.c (.int .i64 0)))]) (.cond (.t 35) (rG [oP 36 (.load false 1 (.t 2)),mV 37 6,mV 38 7,oP 39 (.build [(.str []),(.int .i64 0)] [(0,1,(.t 37)),(1,1,(.t 38))]),oP 40 (.bslice 2 [(.t 39)]),oP 41 (.append 2 24 (.t 36) (.t 40)),⟨none,.store 1 (.t 2) (.t 41),none,[]⟩]) .skip)))))) (rG [oP 42 (.bin .add (.t 22) (.c (.int .i64 1))),mV 22 42]))))))) (.seq (rG [oP 43 (.load false 1 (.t 2)),oP 44 (.len false (.t 43)),oP 45 (.bin .gtr (.t 44) (.c (.int .i64 8)))]) (.cond (.t 45) (rG [oP 46 (.call (.c (.func 101 [])) [(.c (.int .i64 4))])]) .skip)))]
def k192_1:List AIt:=[.lp b192_1,.blk 2,.c (.seq (rG [oP 43 (.load false 1 (.t 2)),oP 44 (.len false (.t 43)),oP 45 (.bin .gtr (.t 44) (.c (.int .i64 8)))]) (.cond (.t 45) (rG [oP 46 (.call (.c (.func 101 [])) [(.c (.int .i64 4))])]) .skip))]
def k193_0:List AIt:=[.lp b193_0,.blk 0,.c (.seq (rG [mV 27 3,oP 28 (.callM (.c (.func 204 [])) [(.t 27)])]) (.seq (rG [mV 29 3,oP 30 (.callM (.c (.func 205 [])) [(.t 29)]),mV 2 30]) .ret))]
def k193_1:List AIt:=[.lp b193_1,.blk 2,.blk 1,.c (rG [oP 26 (.bin .add (.t 10) (.c (.int .i64 1))),mV 10 26]),.lp b193_0,.blk 0,.c (.seq (rG [mV 27 3,oP 28 (.callM (.c (.func 204 [])) [(.t 27)])]) (.seq (rG [mV 29 3,oP 30 (.callM (.c (.func 205 [])) [(.t 29)]),mV 2 30]) .ret))]
def k198_0:List AIt:=[.lp b198_0,.blk 0,.c (.seq (rG [mV 30 3,mV 2 30]) .ret)]
def k199_0:List AIt:=[.lp b199_0,.blk 0,.c (.seq (rG [oP 4 (.mov (.c (.int .i64 (-1))))]) .ret)]
def k200_0:List AIt:=[.lp b200_0,.blk 0,.c (.seq (rG [oP 4 (.mov (.c (.str []))),oP 5 (.mov (.c (.bool false)))]) .ret)]
def k205_0:List AIt:=[.lp b205_0,.blk 0,.c (.seq (rG [mV 60 0,mV 2 60]) .ret)]
def k205_1:List AIt:=[.lp b205_1,.blk 2,.c (.seq (rG [mV 54 0,mV 55 3,oP 56 (.slice 1 (.t 54) (some (.t 55)) none none),⟨none,.clearM [(.str [])] (.t 56),none,[]⟩]) (.seq (rG [mV 57 0,mV 58 3,oP 59 (.slice 1 (.t 57) none (some (.t 58)) none),mV 2 59]) .ret)),.blk 1,.c (rG [mV 14 3,oP 15 (.bin .add (.t 14) (.c (.int .i64 1))),mV 3 15]),.lp b205_0,.blk 0,.c (.seq (rG [mV 60 0,mV 2 60]) .ret)]
def k211_0:List AIt:=[.lp b211_0,.blk 0,.c (.seq (rG [oP 2 (.mov (.c (.int .i64 0)))]) .ret)]
def k211_1:List AIt:=[.lp b211_1,.blk 2,.blk 1,.c (rG [mV 12 3,oP 13 (.bin .add (.t 12) (.c (.int .i64 1))),mV 3 13]),.lp b211_0,.blk 0,.c (.seq (rG [oP 2 (.mov (.c (.int .i64 0)))]) .ret)]
def k212_0:List AIt:=[.lp b212_0,.blk 0,.c (.seq (rG [oP 2 (.mov (.c (.int .i64 0)))]) .ret)]
def k216_0:List AIt:=[.lp b216_0,.blk 0,.c (.seq (rG [oP 4 (.mov (.c (.int .i64 (-1))))]) .ret)]
def k240_0:List AIt:=[.lp b240_0,.blk 0,.c (.seq (rG [oP 4 (.mov (.c (.int .i64 (-1))))]) .ret)]
end Go.Aa.T
