import Derived.Test.YthlhlfiklmmenaaGreatDoorYsane
import Derived.ChangeShapes
import Derived.ChangeReads
import Derived.ChangeOld
import Derived.ProofKit
import Derived.Carry
import Derived.DataElems
import Derived.Laws.Pointers
import Derived.Lib.SlTrimSet
import Derived.Shelf.Strings.SlTrimAscii
import Derived.Shelf.Strings.OnBuilder
import Derived.Shelf.Strings.Count
import Derived.Shelf.Strings.Search3
import Derived.Sort.Grow
import Derived.Sort.Walk0
import Derived.Sort.EncStr
import Derived.Lib.ParseIntB
import Derived.Lib.Bytealg
import Derived.Lib.LaidTab
import Derived.Lib.AppendIntMem
import Derived.Lib.AtoiErrMem
set_option linter.unusedVariables false
set_option linter.unusedSimpArgs false
namespace Go.Aa
open Go.RowKit Go.ChangeShapes Go.WideShapes Go.ChangeAt
def lD(b:Nat):AV:=if(FloatKind.f64.format.read b).isNaN=true then .nan else .bQ b
theorem ow{G:aF}{w:World}(b:Nat):bG G w (.float .f64 b) (lD b):=by
 unfold lD
 split
 ·rename_i h;exact .nan b h
 ·exact .bQ b
def lE(P:Program):Nat→List Field→Nat→Bool
 |off,[],tot=>off==tot
 |off,f::fs,tot=>(f.offset==off)&&lE P (off+P.cellsOf f.type) fs tot
def isAgg(P:Program)(t:TypeId):Bool:=match P.underlying t with
 |some (.struct _)=>true
 |_=>false
def ig(P:Program):Nat→TypeId→Bool
 |0,_=>false
 |n+1,t=>
  match P.underlying t with
  |some .bool=>true
  |some (.int _)=>true
  |some (.float .f64)=>true
  |some .string=>true
  |some (.slice e)=>decide (0<P.cellsOf e)&&(isAgg P e||P.cellsOf e==1)&&ig P n e
  |some (.struct fs)=>lE P 0 fs.toList (P.cellsOf t)&&fs.toList.all fun f=>ig P n f.type
  |_=>false
def Cz(R:TypeId→List AV→Prop):List Field→List AV→Prop
 |[],xs=>xs=[]
 |f::fs,xs=>∃a b,xs=a++b∧R f.type a∧Cz R fs b
def Ty(P:Program):Nat→TypeId→List AV→Prop
 |0,_,_=>False
 |n+1,t,xs=>
  match P.underlying t with
  |some .bool=>∃b,xs=[.bool b]
  |some (.int k)=>∃m,xs=[.int k m]∧(Lit.int k m).wf=true
  |some (.float .f64)=>∃b,xs=[lD b]∧(Lit.float .f64 b).wf=true
  |some .string=>∃s,xs=[.str s]∧s.length≤9223372036854775807
  |some (.slice e)=>∃l:List AV,xs=[.sl .sh l]∧(l.length≤9223372036854775807∧∀x∈l,if isAgg P e then∃cs,x=.agg cs∧Ty P n e cs else Ty P n e [x])∧l.length*P.bytesOf e≤reachBytes
  |some (.struct fs)=>Cz (Ty P n) fs.toList xs
  |_=>False
section
variable{H:Type}{enc:TypeId×Value→H}{P:Program}{w:World}{base:Nat}{held:Bool}{G:aF}
theorem mapM_each{α β:Type}{f:α→Option β}{l:List α}{r:List β}(h:l.mapM f=some r):r.length=l.length∧∀i(h1:i<l.length)(h2:i<r.length),f l[i]=some r[i]:=by
 refine⟨mapM_some_length h,fun i h1 h2=> ?_⟩
 have:=mapM_some_get h i l[i] (List.getElem?_eq_getElem h1)
 rw[this,List.getElem?_eq_getElem h2]
theorem zn:∀(n k:Nat)(t:TypeId)(cs:List Value)(x:DataW H×List MemPlace)(sp:Nat→Bool),ig P k t=true→DataW.trod enc P w base (fun _=>true) held n t cs=some x→
 (∀p∈x.2,sp p.block=true)→DataW.trod enc P w base sp held n t cs=some x:=by
 intro n
 induction n with
 |zero=>intro k t cs x sp _ h;simp[DataW.trod]at h
 |succ n ih=>
  intro k t cs x sp hp h hs
  cases k with
  |zero=>cases hp
  |succ k=>
   unfold ig at hp
   unfold DataW.trod at h⊢
   cases hu:P.underlying t with
   |none=>rw[hu]at hp;cases hp
   |some d=>
    rw[hu]at hp h
    cases d with
    |bool=>
     cases cs with
     |nil=>cases h
     |cons v r=>
      cases r with
      |cons v' r'=>cases v<;>cases h
      |nil=>cases v<;>first|exact h|cases h
    |int q=>
     cases cs with
     |nil=>cases h
     |cons v r=>
      cases r with
      |cons v' r'=>cases v<;>cases h
      |nil=>cases v<;>first|exact h|cases h
    |float q=>
     cases cs with
     |nil=>cases h
     |cons v r=>
      cases r with
      |cons v' r'=>cases v<;>cases h
      |nil=>cases v<;>first|exact h|cases h
    |string=>
     cases cs with
     |nil=>cases h
     |cons v r=>
      cases r with
      |cons v' r'=>cases v<;>cases h
      |nil=>cases v<;>first|exact h|cases h
    |slice e=>
     simp only[Bool.and_eq_true,decide_eq_true_eq]at hp
     obtain⟨⟨he,_⟩,hpe⟩:=hp
     cases cs with
     |nil=>cases h
     |cons v r=>
      cases r with
      |cons v' r'=>exact(by cases v<;>first|(cases h;done)|(rename_i oa len cap;cases oa<;>cases len<;>cases cap<;>cases h))
      |nil=>
       cases v with
       |slice oa len cap=>
        cases oa with
        |none=>cases len<;>cases cap<;>first|exact h|cases h
        |some a=>
         simp only at h⊢
         split at h
         ·rename_i hc
          rw[if_pos hc]
          cases Nb:(List.range len).mapM fun i=>(w.cells? base (a.add (i*P.cellsOf e)) (P.cellsOf e)).bind (DataW.trod enc P w base (fun _=>true) held n e)with
          |none=>rw[Nb]at h;cases h
          |some elems=>
           rw[Nb]at h
           simp only[Option.bind_some,if_true]at h
           cases SD:(List.range (cap-len)).mapM fun j=>(w.cells? base (a.add ((len+j)*P.cellsOf e)) (P.cellsOf e)).bind (DataW.trod enc P w base (fun _=>true) held n e)with
           |none=>rw[SD]at h;cases h
           |some rest=>
            rw[SD]at h
            simp only[Option.map_some,Option.some.injEq]at h
            subst h
            have one:∀(i:Nat)(y:DataW H×List MemPlace),y∈elems++rest→(w.cells? base (a.add (i*P.cellsOf e)) (P.cellsOf e)).bind (DataW.trod enc P w base (fun _=>true) held n e)=some y→
             (w.cells? base (a.add (i*P.cellsOf e)) (P.cellsOf e)).bind (DataW.trod enc P w base sp held n e)=some y:=by
             intro i y hy hf
             cases hcs:w.cells? base (a.add (i*P.cellsOf e)) (P.cellsOf e)with
             |none=>rw[hcs]at hf;cases hf
             |some cs'=>
              rw[hcs]at hf
              simp only[Option.bind_some]at hf⊢
              exact ih k e cs' y sp hpe hf fun p hp=>hs p (by
               simp only[List.mem_append,List.mem_flatMap]
               exact .inr ⟨y,by simpa using hy,hp⟩)
            rw[mapM_carry Nb (fun i y _ hy hf=>one i y (by simp[hy]) hf)]
            simp only[Option.bind_some]
            have qe:(if sp a.block=true then(List.range (cap-len)).mapM fun j=>(w.cells? base (a.add ((len+j)*P.cellsOf e)) (P.cellsOf e)).bind (DataW.trod enc P w base sp held n e)else some [])=some rest:=by
             by_cases hsp:sp a.block=true
             ·rw[if_pos hsp]
              exact mapM_carry SD (fun j y _ hy hf=>one (len+j) y (by simp[hy]) hf)
             ·rw[if_neg hsp]
              have hr:=(mapM_each SD).1
              rw[List.length_range]at hr
              cases rest with
              |nil=>rfl
              |cons r0 rs=>
               exfalso
               refine hsp (hs (.cell a.block (a.off+0)) ?_)
               simp only[List.mem_append]
               refine .inl (MemPlace.mem_row.2 ⟨0,?_,rfl⟩)
               simp only[List.length_cons]
               exact Nat.mul_pos (by omega) he
            rw[qe]
            rfl
         ·cases h
       |_=>cases h
    |struct fs=>
     simp only[Bool.and_eq_true,List.all_eq_true]at hp
     simp only at h⊢
     split at h
     ·rename_i hc
      rw[if_pos hc]
      cases he:fs.toList.mapM fun f=>DataW.trod enc P w base (fun _=>true) held n f.type ((cs.drop f.offset).take (P.cellsOf f.type))with
      |none=>rw[he]at h;cases h
      |some ys=>
       rw[he]at h
       simp only[Option.map_some,Option.some.injEq]at h
       subst h
       rw[mapM_carry he (fun f y hf hy XH=>ih k f.type _ y sp (hp.2 f hf) XH fun p hp'=>hs p (by simp only[List.mem_flatMap];exact⟨y,hy,hp'⟩))]
       rfl
     ·cases h
    |_=>cases hp
theorem zo{a:Addr}{n:Nat}{cs:List Value}(h:w.cells? base a n=some cs):cs.length=n∧∀j(hj:j<cs.length),w.cell? (a.add j)=some cs[j]:=by
 obtain⟨_,h1,h2⟩:=World.cells?_some h
 exact⟨h1,fun j hj=>by rw[h2 j (by omega),List.getElem?_eq_getElem hj]⟩
theorem FO(a:Addr)(n:Nat):(a.add n).off=a.off+n:=by unfold Addr.add;split<;>simp_all
theorem zp(a:Addr)(n:Nat):(a.add n).block=a.block:=by unfold Addr.add;split<;>rfl
theorem FP(a:Addr)(m n:Nat):(a.add m).add n=a.add (m+n):=Addr.add_add a m n
theorem CA{a:Addr}{v:Value}(h:w.cell? a=some v):a.spot=none:=by
 unfold World.cell? at h
 split at h
 ·split at h
  ·cases h
  ·rename_i hs;simpa using hs
 ·cases h
def CB(P:Program)(e:TypeId)(xs:List AV):AV:=if isAgg P e then .agg xs else xs.headD .undef
theorem single{k:Nat}{e:TypeId}{y:AV}(h:Ty P k e [y])(hn:isAgg P e=false):y.cells=[y]:=by
 cases k with
 |zero=>cases h
 |succ k=>
  unfold Ty at h
  unfold isAgg at hn
  cases hu:P.underlying e with
  |none=>rw[hu]at h;cases h
  |some d=>
   rw[hu]at h hn
   cases d with
   |bool=>obtain⟨b,hb⟩:=h;cases hb;rfl
   |int q=>obtain⟨b,hb,_⟩:=h;cases hb;rfl
   |float q=>
    cases q with
    |f32=>cases h
    |f64=>
     obtain⟨b,hb,_⟩:=h
     simp only[List.cons.injEq,and_true]at hb
     subst hb
     unfold lD;split<;>rfl
   |string=>obtain⟨b,hb,_⟩:=h;cases hb;rfl
   |slice q=>obtain⟨b,hb,_⟩:=h;cases hb;rfl
   |struct fs=>cases hn
   |_=>cases h
theorem CC{k:Nat}{e:TypeId}{xs:List AV}(h:Ty P k e xs)(hx:isAgg P e=true∨xs.length=1):(CB P e xs).cells=xs:=by
 unfold CB
 cases ha:isAgg P e with
 |true=>rfl
 |false=>
  rcases hx with h1|h1
  ·rw[ha]at h1;cases h1
  ·obtain⟨y,rfl⟩:=List.length_eq_one_iff.1 h1
   exact single h ha
theorem Nc{k:Nat}{e:TypeId}{xs:List AV}(h:Ty P k e xs)(hx:isAgg P e=true∨xs.length=1):if isAgg P e then∃cs,CB P e xs=.agg cs∧Ty P k e cs else Ty P k e [CB P e xs]:=by
 unfold CB
 cases ha:isAgg P e with
 |true=>exact⟨xs,rfl,h⟩
 |false=>
  rcases hx with h1|h1
  ·rw[ha]at h1;cases h1
  ·obtain⟨y,rfl⟩:=List.length_eq_one_iff.1 h1
   exact h
theorem xb:∀{fs:List Field}{off tot:Nat},lE P off fs tot=true→off≤tot
 |[],off,tot,h=>by simp[lE]at h;omega
 |f::fs,off,tot,h=>by
  simp only[lE,Bool.and_eq_true]at h
  have:=xb h.2
  omega
theorem qY{ts:List TypeId}{ds:List (DataW H)}:∀{e:TypeId}{l:List (DataW H)},(DataW.weightsAll P e l).all (·≤reachBytes)=true→∀(i:Nat)(h:i<l.length),(l[i].weights P e).all (·≤reachBytes)=true
 |e,[],_,i,h=>absurd h (by simp)
 |e,d::l,hw,0,h=>by
  simp only[DataW.weightsAll,List.all_append,Bool.and_eq_true]at hw
  exact hw.1
 |e,d::l,hw,i+1,h=>by
  simp only[DataW.weightsAll,List.all_append,Bool.and_eq_true]at hw
  exact qY (ts:=ts) (ds:=ds) hw.2 i (by simpa using h)
theorem qZ{n:Nat}{R:TypeId→List AV→Prop}{cs:List Value}{tot:Nat}(hcs:cs.length=tot):∀{fs:List Field}{off:Nat}{ys:List (DataW H×List MemPlace)},
 (∀f∈fs,∀y,DataW.trod enc P w base (fun _=>true) held n f.type ((cs.drop f.offset).take (P.cellsOf f.type))=some y→(y.1.weights P f.type).all (·≤reachBytes)=true→
   ∃xs:List AV,xs.length=((cs.drop f.offset).take (P.cellsOf f.type)).length∧(∀(i:Nat)v y,((cs.drop f.offset).take (P.cellsOf f.type))[i]?=some v→xs[i]?=some y→bG G w v y)∧(∀y∈xs,AV.Data y)∧R f.type xs)→
 lE P off fs tot=true→(fs.mapM fun f=>DataW.trod enc P w base (fun _=>true) held n f.type ((cs.drop f.offset).take (P.cellsOf f.type)))=some ys→(DataW.weightsEach P (fs.map (·.type)) (ys.map (·.1))).all (·≤reachBytes)=true→
 ∃xs:List AV,xs.length=tot-off∧(∀(i:Nat)v y,cs[off+i]?=some v→xs[i]?=some y→bG G w v y)∧(∀y∈xs,AV.Data y)∧Cz R fs xs
 |[],off,ys,_,ht,_,_=>by
  simp[lE]at ht
  exact⟨[],by simp;omega,fun i v y _ h=>(by simp at h),fun y hy=>(by cases hy),rfl⟩
 |f::fs,off,ys,ih,ht,hm,hwt=>by
  simp only[lE,Bool.and_eq_true,beq_iff_eq]at ht
  obtain⟨hoff,ht⟩:=ht
  have hle:=xb ht
  rw[List.mapM_cons]at hm
  cases h1:DataW.trod enc P w base (fun _=>true) held n f.type ((cs.drop f.offset).take (P.cellsOf f.type))with
  |none=>rw[h1]at hm;cases hm
  |some y=>
   rw[h1]at hm
   cases h2:fs.mapM fun f=>DataW.trod enc P w base (fun _=>true) held n f.type ((cs.drop f.offset).take (P.cellsOf f.type))with
   |none=>rw[h2]at hm;cases hm
   |some ys'=>
    rw[h2]at hm
    cases hm
    simp only[List.map_cons,DataW.weightsEach,List.all_append,Bool.and_eq_true]at hwt
    obtain⟨a,a1,a2,a3,a4⟩:=ih f (by simp) y h1 hwt.1
    obtain⟨b,b1,b2,b3,b4⟩:=qZ hcs (fun f hf=>ih f (by simp[hf])) ht h2 hwt.2
    rw[List.length_take,List.length_drop,hoff]at a1
    have la:a.length=P.cellsOf f.type:=by omega
    refine⟨a++b,by rw[List.length_append];omega,fun i v y hv hy=> ?_,fun y hy=> ?_,a,b,rfl,a4,b4⟩
    ·rcases Nat.lt_or_ge i a.length with hi|hi
     ·rw[List.getElem?_append_left hi]at hy
      refine a2 i v y ?_ hy
      rw[List.getElem?_take,if_pos (by omega),List.getElem?_drop,hoff]
      exact hv
     ·rw[List.getElem?_append_right hi]at hy
      refine b2 (i-a.length) v y ?_ hy
      rw[←hv];congr 1;omega
    ·rcases List.mem_append.1 hy with hy|hy
     ·exact a3 y hy
     ·exact b3 y hy
theorem FQ(hG:∀a v,w.cell? a=some v→a.off<G.lim a.block):∀(n k:Nat)(t:TypeId)(cs:List Value)(x:DataW H×List MemPlace),ig P k t=true→DataW.trod enc P w base (fun _=>true) held n t cs=some x→(x.1.weights P t).all (·≤reachBytes)=true→
 ∃xs:List AV,xs.length=cs.length∧(∀(i:Nat)v y,cs[i]?=some v→xs[i]?=some y→bG G w v y)∧(∀y∈xs,AV.Data y)∧Ty P k t xs:=by
 intro n
 induction n with
 |zero=>intro k t cs x _ h;simp[DataW.trod]at h
 |succ n ih=>
  intro k t cs x hp h hwt
  cases k with
  |zero=>cases hp
  |succ k=>
   unfold ig at hp
   unfold DataW.trod at h
   unfold Ty
   cases hu:P.underlying t with
   |none=>rw[hu]at hp;cases hp
   |some d=>
    rw[hu]at hp h
    have one:∀(v:Value)(y:AV),bG G w v y→∀(i:Nat)v' y',[v][i]?=some v'→[y][i]?=some y'→bG G w v' y':=fun v y hr i v' y' h1 h2=>by
     cases i with
     |zero=>cases h1;cases h2;exact hr
     |succ i=>cases h1
    have done:∀(v:Value)(y:AV),AV.Data y→bG G w v y→∀z∈[y],AV.Data z:=fun v y hd _ z hz=>by
     rw[List.mem_singleton]at hz;subst hz;exact hd
    cases d with
    |bool=>
     cases cs with
     |nil=>cases h
     |cons v r=>
      cases r with
      |cons v' r'=>cases v<;>cases h
      |nil=>
       cases v with
       |bool b=>exact⟨[.bool b],rfl,one _ _ (.bool b),done _ _ (.bool b) (.bool (w:=w) (G:=G) b),b,rfl⟩
       |_=>cases h
    |int q=>
     cases cs with
     |nil=>cases h
     |cons v r=>
      cases r with
      |cons v' r'=>cases v<;>cases h
      |nil=>
       cases v with
       |int q' m=>
        simp only at h
        split at h
        ·rename_i hc
         obtain⟨rfl,hw⟩:=hc
         exact⟨[.int q' m],rfl,one _ _ (.int q' m),done _ _ (.int q' m) (.int (w:=w) (G:=G) q' m),m,rfl,hw⟩
        ·cases h
       |_=>cases h
    |float q=>
     cases q with
     |f32=>cases hp
     |f64=>
     cases cs with
     |nil=>cases h
     |cons v r=>
      cases r with
      |cons v' r'=>cases v<;>cases h
      |nil=>
       cases v with
       |float q' m=>
        simp only at h
        split at h
        ·rename_i hc
         obtain⟨rfl,hw⟩:=hc
         refine⟨[lD m],rfl,one _ _ (ow m),done (.float .f64 m) _ ?_ (ow m),m,rfl,hw⟩
         unfold lD
         split
         ·exact .nan
         ·exact .bQ m
        ·cases h
       |_=>cases h
    |string=>
     cases cs with
     |nil=>cases h
     |cons v r=>
      cases r with
      |cons v' r'=>cases v<;>cases h
      |nil=>
       cases v with
       |string b=>
        simp only at h
        split at h
        ·rename_i hc
         refine⟨[.str b.data.toList],rfl,one _ _ (.str (w:=w) (G:=G) b.data.toList),done (.string b) _ (.str _) (.str (w:=w) (G:=G) b.data.toList),_,rfl,?_⟩
         exact hc
        ·cases h
       |_=>cases h
    |slice e=>
     simp only[Bool.and_eq_true,decide_eq_true_eq]at hp
     obtain⟨⟨he,hag⟩,hpe⟩:=hp
     cases cs with
     |nil=>cases h
     |cons v r=>
      cases r with
      |cons v' r'=>exact(by cases v<;>first|(cases h;done)|(rename_i oa len cap;cases oa<;>cases len<;>cases cap<;>cases h))
      |nil=>
       cases v with
       |slice oa len cap=>
        cases oa with
        |none=>
         cases len with
         |succ l=>cases h
         |zero=>
          cases cap with
          |succ l=>cases h
          |zero=>exact⟨[.sl .sh []],rfl,one _ _ (.gZ none 0 .sh (fun hh=>by cases hh) (fun t hh=>by cases hh)),done (.slice none 0 0) _ (.sl _ _ (fun t hh=>by cases hh) (fun x hx=>by cases hx)) (.gZ none 0 .sh (fun hh=>by cases hh) (fun t hh=>by cases hh)),[],rfl,⟨by simp,fun x hx=>by cases hx⟩,by simp⟩
        |some a=>
         simp only at h
         split at h
         ·rename_i hc
          cases Nb:(List.range len).mapM fun i=>(w.cells? base (a.add (i*P.cellsOf e)) (P.cellsOf e)).bind (DataW.trod enc P w base (fun _=>true) held n e)with
          |none=>rw[Nb]at h;cases h
          |some elems=>
           obtain⟨hl,hel⟩:=mapM_each Nb
           rw[List.length_range]at hl
           rw[Nb,Option.bind_some,Option.map_eq_some_iff]at h
           obtain⟨rest,-,h⟩:=h
           subst h
           simp only[DataW.weights,hu,List.all_cons,List.all_append,Bool.and_eq_true,decide_eq_true_eq,List.length_map]at hwt
           have XI:=qY (ts:=[]) (ds:=[]) hwt.2.1
           have each:∀i,∃p:List Value×List AV,i<len→p.1.length=P.cellsOf e∧(∀j(hj:j<p.1.length),w.cell? (a.add (i*P.cellsOf e+j))=some p.1[j])∧p.2.length=P.cellsOf e∧
            (∀(j:Nat)v y,p.1[j]?=some v→p.2[j]?=some y→bG G w v y)∧(∀y∈p.2,AV.Data y)∧Ty P k e p.2:=by
            intro i
            by_cases hi:i<len
            ·have:=hel i (by simpa using hi) (by omega)
             simp only[List.getElem_range]at this
             cases hcs:w.cells? base (a.add (i*P.cellsOf e)) (P.cellsOf e)with
             |none=>rw[hcs]at this;cases this
             |some row=>
              rw[hcs]at this
              obtain⟨r1,r2⟩:=zo hcs
              obtain⟨xs,x1,x3,x4,x5⟩:=ih k e row _ hpe this (by have:=XI i (by rw[List.length_map];omega);rwa [List.getElem_map]at this)
              exact⟨(row,xs),fun _=>⟨r1,fun j hj=>by rw[←r2 j hj,FP],by simp only;omega,x3,x4,x5⟩⟩
            ·exact⟨([],[]),fun hh=>absurd hh hi⟩
           obtain⟨f,hf⟩:=Classical.axiomOfChoice each
           have hcells:∀i,i<len→(CB P e (f i).2).cells=(f i).2:=fun i hi=>CC (hf i hi).2.2.2.2.2 (by
            have:=(hf i hi).2.2.1
            rcases Bool.or_eq_true _ _▸hag with h1|h1
            ·exact .inl h1
            ·exact .inr (by rw[this];simpa using h1))
           have hlen:((List.range len).map fun i=>CB P e (f i).2).length=len:=by simp
           have n7:∀i(hi:i<((List.range len).map fun i=>CB P e (f i).2).length),((List.range len).map fun i=>CB P e (f i).2)[i]=CB P e (f i).2:=fun i hi=>by simp
           have oh:∀x∈((List.range len).map fun i=>CB P e (f i).2),∀y∈x.cells,AV.Data y:=fun x hx y hy=>by
            obtain⟨i,hi,rfl⟩:=List.mem_map.1 hx
            rw[List.mem_range]at hi
            rw[hcells i hi]at hy
            exact(hf i hi).2.2.2.2.1 y hy
           have bZ:bG G w (.slice (some a) len cap) (.sl .sh ((List.range len).map fun i=>CB P e (f i).2)):=by
            rcases Nat.eq_zero_or_pos len with h0|h0
            ·subst h0
             exact .gZ (some a) cap .sh (fun hh=>by cases hh) (fun t hh=>by cases hh)
            ·have hs:a.spot=none:=by
              obtain⟨r1,r2,_⟩:=hf 0 h0
              have:=r2 0 (by omega)
              rw[show 0*P.cellsOf e+0=0 by omega]at this
              exact CA (a:=a) this
             have:=bG.sl (G:=G) (w:=w) a cap .sh ((List.range len).map fun i=>CB P e (f i).2) (P.cellsOf e) (fun i j=>((f i).1[j]?).getD Go.undef) (by
              intro hh
              have:=congrArg List.length hh
              rw[hlen]at this
              simp at this;omega)
              (by rw[hlen];exact hc.2.1) hc.2.2 hs (fun i hi=>by rw[n7 i hi,hcells i (by omega)];exact(hf i (by omega)).2.2.1) he oh
              (by
                rw[hlen]
                obtain⟨r1,r2,_⟩:=hf (len-1) (by omega)
                have:=hG _ _ (r2 (P.cellsOf e-1) (by omega))
                have e2:(a.add ((len-1)*P.cellsOf e+(P.cellsOf e-1))).off=a.off+((len-1)*P.cellsOf e+(P.cellsOf e-1)):=FO _ _
                rw[e2]at this
                have e3:len*P.cellsOf e=(len-1)*P.cellsOf e+P.cellsOf e:=by
                 conv=>lhs;rw[show len=(len-1)+1 by omega,Nat.add_mul,Nat.one_mul]
                have e4:(a.add ((len-1)*P.cellsOf e+(P.cellsOf e-1))).block=a.block:=zp _ _
                rw[e4]at this
                omega)
              (fun i hi j hj=>by
                rw[hlen]at hi
                obtain⟨r1,r2,_⟩:=hf i hi
                have hj':j<(f i).1.length:=by omega
                rw[r2 j hj',List.getElem?_eq_getElem hj'];rfl)
              (fun i hi j hj=>by
                have hi':i<len:=by omega
                obtain⟨r1,r2,r3,r4,_⟩:=hf i hi'
                simp only[n7 i hi,hcells i hi']at hj⊢
                have hj':j<(f i).1.length:=by omega
                rw[List.getElem?_eq_getElem hj']
                exact r4 j _ _ (List.getElem?_eq_getElem hj') (List.getElem?_eq_getElem hj))
              (fun hh=>by cases hh) (fun t hh=>by cases hh)
             rw[hlen]at this
             exact this
           refine⟨_,rfl,one _ _ bZ,done _ _ (.sl _ _ (fun t hh=>by cases hh) oh) bZ,_,rfl,⟨?_,?_⟩,by rw[hlen,←hl];exact Nat.le_trans (Nat.mul_le_mul_right _ (Nat.le_add_right _ _)) hwt.1⟩
           ·rw[hlen]
            have:=hc.2.2
            have:=hc.2.1
            have e:maxLen=9223372036854775807:=rfl
            omega
           ·intro x hx
            obtain⟨i,hi,rfl⟩:=List.mem_map.1 hx
            rw[List.mem_range]at hi
            exact Nc (hf i hi).2.2.2.2.2 (by
             have:=(hf i hi).2.2.1
             rcases Bool.or_eq_true _ _▸hag with h1|h1
             ·exact .inl h1
             ·exact .inr (by rw[this];simpa using h1))
         ·cases h
       |_=>cases h
    |struct fs=>
     simp only[Bool.and_eq_true,List.all_eq_true]at hp
     simp only at h
     split at h
     ·rename_i hc
      cases he:fs.toList.mapM fun f=>DataW.trod enc P w base (fun _=>true) held n f.type ((cs.drop f.offset).take (P.cellsOf f.type))with
      |none=>rw[he]at h;cases h
      |some ys=>
       rw[he]at h
       simp only[Option.map_some,Option.some.injEq]at h
       subst h
       simp only[DataW.weights,hu]at hwt
       obtain⟨xs,x1,x2,x3,x4⟩:=qZ (R:=Ty P k) (tot:=P.cellsOf t) (cs:=cs) hc (fun f hf ys hy hw=>ih k f.type _ ys (hp.2 f hf) hy hw) hp.1 he hwt
       exact⟨xs,by omega,fun i v y h1 h2=>x2 i v y (by simpa using h1) h2,x3,x4⟩
     ·cases h
    |_=>cases hp
def mY(P:Program)(k:Nat)(t:TypeId)(x:AV):Prop:=if isAgg P t then∃cs,x=.agg cs∧Ty P k t cs else Ty P k t [x]
def xd(P:Program)(k:Nat):List TypeId→List AV→Prop
 |[],[]=>True
 |t::ts,x::xs=>mY P k t x∧xd P k ts xs
 |_,_=>False
theorem Jt{k:Nat}{r:Reach}{b0:Nat}{t:TypeId}{v:Value}(hp:ig P k t=true)(ha:isAgg P t=false)(hval:Value.okWide P w r b0 t v):v.cells= #[v]:=by
 cases k with
 |zero=>cases hp
 |succ k=>
  unfold ig at hp
  unfold isAgg at ha
  unfold Value.okWide at hval
  cases hu:P.underlying t with
  |none=>rw[hu]at hp;cases hp
  |some d=>
   rw[hu]at hp ha hval
   cases d with
   |struct fs=>cases ha
   |bool=>cases v<;>first|rfl|(simp[Cell.okWide,Cell.ok,hu]at hval;done)
   |int q=>cases v<;>first|rfl|(simp[Cell.okWide,Cell.ok,hu]at hval;done)
   |float q=>cases v<;>first|rfl|(simp[Cell.okWide,Cell.ok,hu]at hval;done)
   |string=>cases v<;>first|rfl|(simp[Cell.okWide,Cell.ok,hu]at hval;done)
   |slice q=>cases v<;>first|rfl|(simp[Cell.okWide,Cell.ok,hu]at hval;done)
   |_=>cases hp
theorem Nd{r:Reach}{b0:Nat}{t:TypeId}{v:Value}(ha:isAgg P t=true)(hval:Value.okWide P w r b0 t v):∃cs,v=.agg cs:=by
 unfold isAgg at ha
 unfold Value.okWide at hval
 cases hu:P.underlying t with
 |none=>rw[hu]at ha;cases ha
 |some d=>
  rw[hu]at ha hval
  cases d with
  |struct fs=>obtain⟨cs,h,_⟩:=hval;exact⟨cs,h⟩
  |_=>cases ha
theorem Ju(hG:∀a v,w.cell? a=some v→a.off<G.lim a.block){k:Nat}{r:Reach}{b0:Nat}{t:TypeId}{v:Value}{d:DataW H}{ps:List MemPlace}(hp:ig P k t=true)(hval:Value.okWide P w r b0 t v)
 (h:DataW.Trod enc P w base (fun _=>true) held t v d ps)(hwt:(d.weights P t).all (·≤reachBytes)=true):∃x,bG G w v x∧mY P k t x:=by
 obtain⟨n,hn⟩:=h
 obtain⟨xs,x1,x2,x3,x4⟩:=FQ hG n k t _ _ hp hn hwt
 unfold mY
 cases ha:isAgg P t with
 |true=>
  obtain⟨cs,rfl⟩:=Nd ha hval
  refine⟨.agg xs,.agg cs xs (by rw[x1];exact Array.length_toList.symm) (fun i h1 h2=>x2 i _ _ ?_ (List.getElem?_eq_getElem h2)),xs,rfl,x4⟩
  rw[show(Value.agg cs).cells=cs from rfl,Array.getElem?_toList,Array.getElem?_eq_getElem h1]
 |false=>
  have hc:=Jt hp ha hval
  rw[hc]at x1 x2
  obtain⟨y,rfl⟩:=List.length_eq_one_iff.1 (x1.trans rfl)
  exact⟨y,x2 0 v y rfl rfl,x4⟩
theorem A3(hG:∀a v,w.cell? a=some v→a.off<G.lim a.block){k:Nat}{r:Reach}{b0:Nat}:∀{ts:List TypeId}{vs:List Value}{ds:List (DataW H)}{ps:List MemPlace},ts.all (ig P k)=true→
 (∀(j:Nat)t v,ts[j]?=some t→vs[j]?=some v→Value.okWide P w r b0 t v)→DataW.TrodAll enc P w base (fun _=>true) held ts vs ds ps→(DataW.weightsEach P ts ds).all (·≤reachBytes)=true→
 ∃xs:List AV,xs.length=vs.length∧(∀(i:Nat)v y,vs[i]?=some v→xs[i]?=some y→bG G w v y)∧xd P k ts xs
 |[],[],[],ps,_,_,_,_=>⟨[],rfl,fun i v y h=>(by simp at h),trivial⟩
 |t::ts,v::vs,d::ds,ps,hp,hval,⟨p,q,h1,h2,_⟩,hwt=>by
  rw[List.all_cons,Bool.and_eq_true]at hp
  simp only[DataW.weightsEach,List.all_append,Bool.and_eq_true]at hwt
  obtain⟨x,hx,hy⟩:=Ju hG hp.1 (hval 0 t v rfl rfl) h1 hwt.1
  obtain⟨xs,x1,x2,x3⟩:=A3 hG hp.2 (fun j t v a b=>hval (j+1) t v a b) h2 hwt.2
  refine⟨x::xs,by simp[x1],fun i v' y' a b=> ?_,hy,x3⟩
  cases i with
  |zero=>cases a;cases b;exact hx
  |succ i=>exact x2 i v' y' a b
 |[],[],_::_,_,_,_,h,_=>h.elim
 |[],_::_,_,_,_,_,h,_=>h.elim
 |_::_,[],_,_,_,_,h,_=>h.elim
 |_::_,_::_,[],_,_,_,h,_=>h.elim
theorem xe{w':World}{k:Nat}{sp:Nat→Bool}(hB:Below w.heap.size w w'):∀{ts:List TypeId}{vs:List Value}{ds:List (DataW H)}{ps:List MemPlace},ts.all (ig P k)=true→
 (∀p∈ps,sp p.block=true)→DataW.TrodAll enc P w base (fun _=>true) held ts vs ds ps→DataW.TrodAll enc P w' base sp held ts vs ds ps
 |[],[],[],ps,_,_,h=>h
 |t::ts,v::vs,d::ds,ps,hp,hs,⟨p,q,⟨n,h1⟩,h2,e⟩=>by
  subst e
  rw[List.all_cons,Bool.and_eq_true]at hp
  refine⟨p,q,⟨n,?_⟩,xe hB hp.2 (fun x hx=>hs x (by simp[hx])) h2,rfl⟩
  refine DataW.trod_carry n _ _ _ (zn n k _ _ _ sp hp.1 h1 fun x hx=>hs x (by simp[hx])) (fun x hx=>hB.same (DataW.trod_lt n _ _ _ h1 x hx))
 |[],[],_::_,_,_,_,h=>h.elim
 |[],_::_,_,_,_,_,h=>h.elim
 |_::_,[],_,_,_,_,h=>h.elim
 |_::_,_::_,[],_,_,_,h=>h.elim
theorem A4{sp:Nat→Bool}:∀{ts:List TypeId}{vs:List Value}{ds:List (DataW H)}{ps:List MemPlace},DataW.TrodAll enc P w base sp held ts vs ds ps→vs.length=ts.length∧ds.length=ts.length
 |[],[],[],_,_=>⟨rfl,rfl⟩
 |t::ts,v::vs,d::ds,ps,⟨p,q,h1,h2,e⟩=>by
  obtain⟨a,b⟩:=A4 h2
  exact⟨by simp[a],by simp[b]⟩
 |[],[],_::_,_,h=>h.elim
 |[],_::_,_,_,h=>h.elim
 |_::_,[],_,_,h=>h.elim
 |_::_,_::_,[],_,h=>h.elim
def GW(w:World):aF:={lim:=fun b=>match w.heap[b]? with|some (.cells c _ _)=>c.size|_=>0,nb:=0,μ:=fun _=>0,nt:=0,τ:=fun _=>0,ext:=fun _=>0,cap:=fun _=>0,mw:=fun _=>0,nl:=0,ln:=fun _=>0,mc:=fun _=>0,hole:=fun _=>false}
def FR(P:Program)(w:World):Prop:=∀s∈qf,∀g,P.globalNamed s.1=some g→∃cs e m,w.heap[g]?=some (.cells cs e m)∧s.2 cs
theorem glob0_none(h:(qf.map (fun s=>s.1)).all (fun s=>(P.globalNamed s).isNone)=true)(w:World):FR P w:=fun s hs g hg=>by
 have:=List.all_eq_true.1 h s.1 (List.mem_map_of_mem hs)
 rw[hg]at this;cases this
theorem Jv(w:World)(hg:FR P w):bB P (GW w) w Heap.nil:=
 ⟨fun b hb=>by simp[GW,Array.getElem?_eq_none hb],rfl,rfl,rfl,fun k hk=>absurd hk (by simp[Heap.nil]),fun i j hi=>absurd hi.1 (by simp[GW]),fun k hk=>absurd hk.1 (by simp[GW]),fun t ht=>absurd ht (by simp[Heap.nil]),fun i j hi=>absurd hi (by simp[GW]),
  fun k t hk=>absurd hk.1 (by simp[GW]),fun l hl=>absurd hl (by simp[Heap.nil]),fun i j hi=>absurd hi (by simp[GW]),
  fun s hs g h=>by
   obtain⟨cs,e,m,h1,h2⟩:=hg s hs g h
   exact⟨⟨fun k hk=>absurd hk.1 (by simp[GW]),fun k hk=>absurd hk (by simp[GW]),fun k hk=>absurd hk (by simp[GW])⟩,cs,e,m,h1,h2⟩⟩
theorem Nf:∀a v,w.cell? a=some v→a.off<(GW w).lim a.block:=by
 intro a v h
 unfold World.cell? at h
 unfold GW
 simp only
 split at h
 ·rename_i c _ _ hc
  rw[hc]
  split at h
  ·cases h
  ·exact(Array.getElem?_eq_some_iff.1 h).1
 ·cases h
theorem zq{G:aF}{w w':World}{G':aF}(h:Step G w G' w')(h1:G.nb=0)(h2:G.nt=0)(h3:G.nl=0):Below w.heap.size w w':=
 ⟨h.os,h.tape,h.output,h.size,fun k hk=>(h.frame k hk (fun i hi=>absurd hi.1 (by omega)) (fun i hi=>absurd hi (by omega)) (fun i hi=>absurd hi (by omega))).1⟩
theorem sr{f:Func}{s:ChangeSpec}{apart fresh handsOn again:Bool}{W W':World}{args:Array Value}{v:Value}{ds gs:List (DataW H)}{before pa pv:List MemPlace}
 (hW:DataW.Whole enc P f.params.toList s.vars apart W args.toList ds gs before)
 (hres:∀(b:Nat)(sp:Nat→Bool)(hd:Bool),DataW.TrodAll enc P W' b sp hd f.resultTypes.toList (v.resultList f.resultTypes.size) (s.fn H (ds++gs)).results [])
 (hargs:∀sp:Nat→Bool,(∀p∈before,sp p.block=true)→DataW.TrodAll enc P W' 0 sp true f.params.toList args.toList (s.fn H (ds++gs)).args pa)
 (hvars:∀sp:Nat→Bool,(∀p∈before,sp p.block=true)→DataW.TrodVars enc P W' sp s.vars (s.fn H (ds++gs)).vars pv)
 (hps:before=pa++pv)(hb:Below W.heap.size W W')
 (hok:∀(j:Nat)(t:TypeId)(r:Value),f.resultTypes[j]?=some t→(v.resultList f.resultTypes.size)[j]?=some r→Value.okWide P W' .any 0 t r):
 s.post enc P f apart fresh handsOn again W args v W':=by
 have hlt:∀p∈before,p.block<W.heap.size:=fun p hp=>hW.lt p hp
 have hold:∀p∈before,(fun b=>decide (b<W.heap.size)) p.block=true:=fun p hp=>by simpa using hlt p hp
 refine⟨ds,gs,before,[],pa,pv,hW,hres _ _ _,hargs _ hold,hvars _ hold,World.keptBut_mono (fun p hp=>⟨hp,?_⟩) (hb.frame (·∈before)),fun _=> ?_⟩
 ·rw[hps,List.mem_append]at hp
  exact Or.inr hp
 ·obtain⟨_,_,_,_,_,hz,hn⟩:=hW
  refine⟨hok,_,_,([]++pa)++pv,⟨[]++pa,pv,trodAll_append (hargs _ (fun _ _=>rfl)) (hres _ _ _),hvars _ (fun _ _=>rfl),rfl,?_,?_⟩,?_⟩
  ·intro b off hp
   have hin:MemPlace.cell b off∈before:=by rw[hps];simpa using hp
   rw[hb.frozen (hlt _ hin)]
   exact hz b off hin
  ·intro ha
   have:=hn ha
   rw[hps]at this
   simpa using this
  ·intro p hp _
   rw[hps]
   simpa using hp
end
section
variable{P:Program}{k:Nat}{t:TypeId}{x:AV}{xs:List AV}
theorem pQ(hu:P.underlying t=some .bool)(h:Ty P (k+1) t xs):∃b,xs=[.bool b]:=by unfold Ty at h;rw[hu]at h;exact h
theorem oz{q:IntKind}(hu:P.underlying t=some (.int q))(h:Ty P (k+1) t xs):∃m,xs=[.int q m]∧(Lit.int q m).wf=true:=by unfold Ty at h;rw[hu]at h;exact h
theorem FT(hu:P.underlying t=some (.float .f64))(h:Ty P (k+1) t xs):∃b,xs=[lD b]∧(Lit.float .f64 b).wf=true:=by unfold Ty at h;rw[hu]at h;exact h
theorem dn(hu:P.underlying t=some .string)(h:Ty P (k+1) t xs):∃s,xs=[.str s]∧s.length≤9223372036854775807:=by unfold Ty at h;rw[hu]at h;exact h
theorem CD{e:TypeId}(hu:P.underlying t=some (.slice e))(h:Ty P (k+1) t xs):∃l:List AV,xs=[.sl .sh l]∧(l.length≤9223372036854775807∧∀x∈l,mY P k e x)∧l.length*P.bytesOf e≤reachBytes:=by unfold Ty at h;rw[hu]at h;exact h
theorem fZ{e:TypeId}(hu:P.underlying t=some (.slice e))(h:Ty P (k+1) t xs):∃l:List AV,xs=[.sl .sh l]∧l.length≤9223372036854775807∧∀x∈l,mY P k e x:=by
 obtain⟨l,h1,h2,-⟩:=CD hu h
 exact⟨l,h1,h2⟩
theorem CE{fs:Array Field}(hu:P.underlying t=some (.struct fs))(h:Ty P (k+1) t xs):Cz (Ty P k) fs.toList xs:=by unfold Ty at h;rw[hu]at h;exact h
theorem A5{q:IntKind}(hu:P.underlying t=some (.int q))(h:mY P (k+1) t x):∃m,x=.int q m∧(Lit.int q m).wf=true:=by
 unfold mY isAgg at h;rw[hu]at h
 obtain⟨b,e,hw⟩:=oz hu h
 exact⟨b,by simpa using e,hw⟩
theorem CF(hu:P.underlying t=some (.float .f64))(h:mY P (k+1) t x):∃b,x=lD b∧(Lit.float .f64 b).wf=true:=by
 unfold mY isAgg at h;rw[hu]at h
 obtain⟨b,e,hw⟩:=FT hu h
 exact⟨b,by simpa using e,hw⟩
theorem CG{e:TypeId}(hu:P.underlying t=some (.slice e))(h:mY P (k+1) t x):∃l:List AV,x=.sl .sh l∧l.length≤9223372036854775807∧∀y∈l,mY P k e y:=by
 unfold mY isAgg at h;rw[hu]at h
 obtain⟨b,e,hw⟩:=fZ hu h
 exact⟨b,by simpa using e,hw⟩
theorem eG{fs:Array Field}(hu:P.underlying t=some (.struct fs))(h:mY P (k+1) t x):∃cs,x=.agg cs∧Cz (Ty P k) fs.toList cs:=by
 unfold mY isAgg at h;rw[hu]at h
 obtain⟨cs,e,hw⟩:=h
 exact⟨cs,e,CE hu hw⟩
theorem Jw{a b c d e:TypeId}(h:xd P k [a,b,c,d,e] xs):∃x y z u v,xs=[x,y,z,u,v]∧mY P k a x∧mY P k b y∧mY P k c z∧mY P k d u∧mY P k e v:=by
 match xs,h with
 |[x,y,z,u,v],⟨h,h2,h3,h4,h5,_⟩=>exact⟨x,y,z,u,v,rfl,h,h2,h3,h4,h5⟩
end
end Go.Aa
namespace Go.Aa
open Go.RowKit
variable{P:Program}{G G':aF}{w w2 w3:World}{H H':Heap}
def Jx(G:aF)(b:Nat):Prop:=G.lim b=0∧(∀k,G.on k→b≠G.μ k)∧(∀t,t<G.nt→b≠G.τ t)∧(∀k,k<G.nl→b≠G.ln k)
theorem FU(hH:bB P G w H):Jx G w.heap.size:=
 ⟨hH.base _ (Nat.le_refl _),fun k hk e=>by have:=hH.uD hk;omega,fun t ht e=>by
   obtain⟨_,us,u,h,_⟩:=hH.tok t (by rw[←hH.nt];exact ht)
   rw[←e]at h
   exact absurd (Array.getElem?_eq_some_iff.1 h).1 (by omega),
  fun l hl e=>by
   obtain⟨rec,h,_⟩:=hH.loop l (by rw[←hH.nl];exact hl)
   rw[←e]at h
   exact absurd (Array.getElem?_eq_some_iff.1 h).1 (by omega)⟩
theorem xg(hH:bB P G w H)(o:Obj):Step G w G (w.alloc o)∧bB P G (w.alloc o) H:=by
 have hheap:∀b,b<w.heap.size→(w.alloc o).heap[b]?=w.heap[b]?:=fun b hb=>Below.heap_alloc w o b hb
 have hsz:(w.alloc o).heap.size=w.heap.size+1:=by simp
 have hcell:∀b off,off<G.lim b→(w.alloc o).cell? ⟨b,off,none⟩=w.cell? ⟨b,off,none⟩:=fun b off h=>by
  have hb:b<w.heap.size:=by
   rcases Nat.lt_or_ge b w.heap.size with h1|h1
   ·exact h1
   ·rw[hH.base b h1]at h;omega
  unfold World.cell?
  rw[hheap b hb]
 have hst:Step G w G (w.alloc o):=
  ⟨rfl,rfl,rfl,by omega,fun _=>Nat.le_refl _,hcell,Nat.le_refl _,fun _ _=>rfl,fun _ _=>rfl,fun k h=>.inl ⟨k,h,rfl⟩,fun _ _=>rfl,Nat.le_refl _,fun _ _=>Nat.le_refl _,
   fun _ _ _=>⟨rfl,rfl⟩,fun _ _=>rfl,fun _ h=>.inl ⟨h,rfl⟩,Nat.le_refl _,fun _ _=>rfl,fun _ h1 h2=>absurd h2 (by omega),fun b hb _ _ _=>⟨hheap b hb,rfl⟩⟩
 refine⟨hst,fun b hb=>hH.base b (by omega),hH.nb,hH.nt,hH.nl,fun k hk hh=> ?_,hH.fI,hH.gw,fun t ht=> ?_,hH.gR,hH.jF,fun l hl=> ?_,hH.kQ,hH.j5.step hst⟩
 ·obtain⟨us,e,h,h1,h2⟩:=hH.box k hk hh
  exact⟨us,e,by rw[hheap _ (Array.getElem?_eq_some_iff.1 h).1];exact h,h1,fun i i1 i2=>(h2 i i1 i2).step hst⟩
 ·obtain⟨h0,us,e,h,h1⟩:=hH.tok t ht
  exact⟨h0,us,e,by rw[hheap _ (Array.getElem?_eq_some_iff.1 h).1];exact h,h1⟩
 ·obtain⟨rec,h,h1⟩:=hH.loop l hl
  exact⟨rec,by rw[hheap _ (Array.getElem?_eq_some_iff.1 h).1];exact h,h1.keep hst.keep⟩
theorem tG{b:Nat}(hf:Jx G b)(hb:b<w.heap.size)(hst:Step G w G' w2)(hlt:∀t,t<G.nt→G.τ t<w.heap.size):Jx G' b∧w2.heap[b]?=w.heap[b]?:=by
 obtain⟨h0,h1,h2,h3⟩:=hf
 obtain⟨f1,f2⟩:=hst.frame b hb h1 h2 h3
 refine⟨⟨by rw[f2];exact h0,fun k hk e=> ?_,fun t ht e=> ?_,fun l hl e=> ?_⟩,f1⟩
 ·rcases hst.jJ k hk with⟨j,hj,e2⟩|h
  ·exact h1 j hj (e.trans e2)
  ·omega
 ·rcases hst.kH t ht with⟨ht',e'⟩|h
  ·rw[e']at e;exact h2 t ht' e
  ·omega
 ·rcases Nat.lt_or_ge l G.nl with hl'|hl'
  ·rw[hst.ln l hl']at e;exact h3 l hl' e
  ·have:=hst.pF l hl' hl;omega
theorem QB{b:Nat}(hf:Jx G' b)(hbase:pH G w)(hb:w.heap.size≤b)(hst:Step G w G' w2)(tH:bB P G' w2 H')(oA:∀k,k≠b→w3.heap[k]?=w2.heap[k]?)(hsz:w3.heap.size=w2.heap.size)
 (XJ:vX P G w)
 (hos:w3.os=w2.os)(QC:w3.tape=w2.tape)(hout:w3.output=w2.output):Step G w G' w3∧bB P G' w3 H':=by
 obtain⟨h0,h1,h2,h3⟩:=hf
 have hkeep:pG G' w2 G' w3:=
  ⟨fun _=>Nat.le_refl _,fun c off h=>by
    have:c≠b:=fun e=>by subst e;omega
    unfold World.cell?
    rw[oA c this],Nat.le_refl _,fun _ h=>h,fun _ _=>rfl,Nat.le_refl _,fun _ _=>Nat.le_refl _,fun _ _ _=>⟨rfl,rfl⟩,fun _ _=>rfl,Nat.le_refl _,fun _ _=>rfl,fun _ _=>rfl⟩
 refine⟨⟨hos.trans hst.os,QC.trans hst.tape,hout.trans hst.output,by rw[hsz];exact hst.size,hst.lim,fun c off h=> ?_,hst.nb,hst.hole,hst.μ,hst.jJ,hst.mc,hst.nt,hst.ext,hst.τ,hst.mw,hst.kH,hst.nl,hst.ln,hst.pF,fun c hc a1 a2 a3=> ?_⟩,
  fun c hc=>tH.base c (by omega),tH.nb,tH.nt,tH.nl,fun k hk hh=> ?_,tH.fI,tH.gw,fun t ht=> ?_,tH.gR,tH.jF,fun l hl=> ?_,tH.kQ,fun sp hs g hg=>by
   obtain⟨g1,cs,e,m,g4,g5⟩:=tH.j5 sp hs g hg
   obtain⟨_,_,_,_,q4,_⟩:=XJ sp hs g hg
   have:=(Array.getElem?_eq_some_iff.1 q4).1
   exact⟨g1,cs,e,m,by rw[oA g (by omega)];exact g4,g5⟩⟩
 ·rw[←hst.cell c off h]
  exact hkeep.cell c off (Nat.lt_of_lt_of_le h (hst.lim c))
 ·obtain⟨e1,e2⟩:=hst.frame c hc a1 a2 a3
  exact⟨by rw[oA c (by omega)];exact e1,e2⟩
 ·obtain⟨us,e,h,g1,g2⟩:=tH.box k hk hh
  exact⟨us,e,by rw[oA _ (Ne.symm (h1 k ⟨by rw[tH.nb];exact hk,hh⟩))];exact h,g1,fun i i1 i2=>(g2 i i1 i2).keep hkeep⟩
 ·obtain⟨g0,us,e,h,g1⟩:=tH.tok t ht
  exact⟨g0,us,e,by rw[oA _ (Ne.symm (h2 t (by rw[tH.nt];exact ht)))];exact h,g1⟩
 ·obtain⟨rec,h,g1⟩:=tH.loop l hl
  exact⟨rec,by rw[oA _ (Ne.symm (h3 l (by rw[tH.nl];exact hl)))];exact h,g1.keep hkeep⟩
theorem Ng(hH:bB P G w H):∀t,t<G.nt→G.τ t<w.heap.size:=fun t ht=>by
 obtain⟨_,us,u,h,_⟩:=hH.tok t (by rw[←hH.nt];exact ht)
 exact(Array.getElem?_eq_some_iff.1 h).1
end Go.Aa
namespace Go.Aa
open Go.RowKit
variable{P:Program}{G:aF}{w w':World}{H:Heap}
theorem q7(hH:bB P G w H)(hB:Below w.heap.size w w'):Step G w G w'∧bB P G w' H:=by
 have hheap:∀b,b<w.heap.size→w'.heap[b]?=w.heap[b]?:=fun b hb=>hB.block b hb
 have hcell:∀b off,off<G.lim b→w'.cell? ⟨b,off,none⟩=w.cell? ⟨b,off,none⟩:=fun b off h=>by
  have hb:b<w.heap.size:=by
   rcases Nat.lt_or_ge b w.heap.size with h1|h1
   ·exact h1
   ·rw[hH.base b h1]at h;omega
  unfold World.cell?
  rw[hheap b hb]
 have hst:Step G w G w':=
  ⟨hB.os,hB.tape,hB.output,hB.size,fun _=>Nat.le_refl _,hcell,Nat.le_refl _,fun _ _=>rfl,fun _ _=>rfl,fun k h=>.inl ⟨k,h,rfl⟩,fun _ _=>rfl,Nat.le_refl _,fun _ _=>Nat.le_refl _,
   fun _ _ _=>⟨rfl,rfl⟩,fun _ _=>rfl,fun _ h=>.inl ⟨h,rfl⟩,Nat.le_refl _,fun _ _=>rfl,fun _ h1 h2=>absurd h2 (by omega),fun b hb _ _ _=>⟨hheap b hb,rfl⟩⟩
 refine⟨hst,fun b hb=>hH.base b (by have:=hB.size;omega),hH.nb,hH.nt,hH.nl,fun k hk hh=> ?_,hH.fI,hH.gw,fun t ht=> ?_,hH.gR,hH.jF,fun l hl=> ?_,hH.kQ,hH.j5.step hst⟩
 ·obtain⟨us,e,h,h1,h2⟩:=hH.box k hk hh
  exact⟨us,e,by rw[hheap _ (Array.getElem?_eq_some_iff.1 h).1];exact h,h1,fun i i1 i2=>(h2 i i1 i2).step hst⟩
 ·obtain⟨h0,us,e,h,h1⟩:=hH.tok t ht
  exact⟨h0,us,e,by rw[hheap _ (Array.getElem?_eq_some_iff.1 h).1];exact h,h1⟩
 ·obtain⟨rec,h,h1⟩:=hH.loop l hl
  exact⟨rec,by rw[hheap _ (Array.getElem?_eq_some_iff.1 h).1];exact h,h1.keep hst.keep⟩
theorem q8{vs:Array Value}{x y:AV}(h:fk G w vs [x,y]):∃u v,vs= #[u,v]∧bG G w u x∧bG G w v y:=by
 obtain⟨h1,h2⟩:=h
 have hs:vs.size=2:=by simpa using h1
 refine⟨vs[0],vs[1],?_,by simpa using h2 0 (by omega) (by simp),by simpa using h2 1 (by omega) (by simp)⟩
 apply Array.ext
 ·simpa using hs
 ·intro i i1 i2
  have:i=0∨i=1:=by omega
  rcases this with rfl|rfl<;>rfl
theorem ki{v:Value}{s:List UInt8}(h:bG G w v (.str s)):v=.string ⟨s.toArray⟩:=by cases h;rfl
def Enters(P:Program)(f:FuncId):Prop:=∀vs w,(callFunc f vs).run P w=.ok (.enter f vs) w
def zu(xs:List AV)(H:Heap):Option (AV×Heap):=match xs with
 |[.str s,.str [c]]=>some (.int .i64 (Lib.indexByte s c),H)
 |_=>none
def zw(xs:List AV)(H:Heap):Option (AV×Heap):=match xs with
 |[.str s,.str [c]]=>some (.int .i64 (Lib.countByte s c),H)
 |_=>none
def xh(xs:List AV)(H:Heap):Option (AV×Heap):=match xs with
 |[.str s,.str cs]=>if s.length≤9223372036854775807∧cs.length<4294967281∧cs.all (fun b=>decide (b.toNat<128))=true then some (.str (Lib.trimS s cs),H)else none
 |_=>none
def o8:List AV→Option (List (List UInt8))
 |[]=>some []
 |.str s::xs=>(o8 xs).map (s::·)
 |_=>none
theorem CH{f:FuncId}(hf:Enters P f)(h:∀(s:ByteArray)(c:UInt8)(w:World),Calls P f #[.string s,.string ⟨#[c]⟩] w fun e w'=>e=.returned (.int .i64 (Lib.indexByte s.data.toList c))∧w'=w):o4 P f zu:=by
 intro xs H v H' hg G w vs hH hargs
 unfold zu at hg
 split at hg<;>simp only[Option.some.injEq,Prod.mk.injEq,reduceCtorEq]at hg
 rename_i s c
 obtain⟨rfl,rfl⟩:=hg
 obtain⟨u,u',rfl,h1,h2⟩:=q8 hargs
 cases ki h1
 cases ki h2
 refine .inl ⟨w,hf _ _,(h ⟨s.toArray⟩ c w).mono fun e w' hh=> ?_,rfl⟩
 obtain⟨rfl,rfl⟩:=hh
 exact⟨G,.refl _ _,hH,_,rfl,.int _ _⟩
theorem CI{f:FuncId}(hf:Enters P f)(h:∀(s:ByteArray)(c:UInt8)(w:World),Calls P f #[.string s,.string ⟨#[c]⟩] w fun e w'=>e=.returned (.int .i64 (Lib.countByte s.data.toList c))∧w'=w):o4 P f zw:=by
 intro xs H v H' hg G w vs hH hargs
 unfold zw at hg
 split at hg<;>simp only[Option.some.injEq,Prod.mk.injEq,reduceCtorEq]at hg
 rename_i s c
 obtain⟨rfl,rfl⟩:=hg
 obtain⟨u,u',rfl,h1,h2⟩:=q8 hargs
 cases ki h1
 cases ki h2
 refine .inl ⟨w,hf _ _,(h ⟨s.toArray⟩ c w).mono fun e w' hh=> ?_,rfl⟩
 obtain⟨rfl,rfl⟩:=hh
 exact⟨G,.refl _ _,hH,_,rfl,.int _ _⟩
theorem FV{f:FuncId}(hf:Enters P f)(h:∀(s cutset:ByteArray)(w:World),s.size≤9223372036854775807→cutset.size<4294967281→(∀(j:Nat)(b:UInt8),cutset.data.toList[j]?=some b→b.toNat<128)→
 Calls P f #[.string s,.string cutset] w fun e w'=>e=.returned (.string ⟨(Lib.trimS s.data.toList cutset.data.toList).toArray⟩)∧Below w.heap.size w w'):o4 P f xh:=by
 intro xs H v H' hg G w vs hH hargs
 unfold xh at hg
 split at hg
 ·rename_i s cs
  split at hg<;>simp only[Option.some.injEq,Prod.mk.injEq,reduceCtorEq]at hg
  rename_i hc
  obtain⟨rfl,rfl⟩:=hg
  obtain⟨u,u',rfl,h1,h2⟩:=q8 hargs
  cases ki h1
  cases ki h2
  refine .inl ⟨w,hf _ _,(h ⟨s.toArray⟩ ⟨cs.toArray⟩ w hc.1 hc.2.1 fun j b hb=> ?_).mono fun e w' hh=> ?_,rfl⟩
  ·have:=List.all_eq_true.1 hc.2.2 b (List.mem_of_getElem? hb)
   simpa using this
  ·obtain⟨rfl,hB⟩:=hh
   obtain⟨s1,s2⟩:=q7 hH hB
   exact⟨G,s1,s2,_,rfl,.str _⟩
 ·cases hg
theorem tI:∀{l:List AV}{ss:List (List UInt8)},o8 l=some ss→l=ss.map .str
 |[],ss,h=>by simp only[o8,Option.some.injEq]at h;subst h;rfl
 |x::l,ss,h=>by
  cases x with
  |str s=>
   simp only[o8]at h
   cases hl:o8 l with
   |none=>rw[hl]at h;cases h
   |some ss'=>
    rw[hl]at h
    simp only[Option.map_some,Option.some.injEq]at h
    subst h
    rw[tI hl];rfl
  |_=>cases h
end Go.Aa
namespace Go.Aa
open Go.RowKit
variable{P:Program}{G:aF}{w w':World}{H:Heap}
def zx(x:List UInt8):List (List UInt8)→List (List UInt8)
 |[]=>[x]
 |y::l=>bif Op.bytesLess y x then y::zx x l else x::y::l
def ep:List (List UInt8)→List (List UInt8)
 |[]=>[]
 |x::l=>zx x (ep l)
theorem oB(x:List UInt8):∀l,(zx x l).Perm (x::l)
 |[]=>.refl _
 |y::l=>by
  unfold zx
  cases Op.bytesLess y x
  ·exact .refl _
  ·exact((oB x l).cons y).trans (.swap x y l)
theorem kj:∀l,(ep l).Perm l
 |[]=>.refl _
 |x::l=>(oB x _).trans ((kj l).cons x)
theorem A6{x y:List UInt8}(h:Op.bytesLess y x=false):x≤y:=by
 rw[Go.Proofs.bytesLess_eq]at h
 simpa using h
theorem o9(x:List UInt8):∀{l:List (List UInt8)},l.Pairwise (·≤·)→(zx x l).Pairwise (·≤·)
 |[],_=>by simp[zx]
 |y::l,h=>by
  have h1:∀{z},z∈l→y≤z:=fun hz=>List.rel_of_pairwise_cons h hz
  have h2:=List.Pairwise.of_cons h
  unfold zx
  cases hb:Op.bytesLess y x with
  |false=>
   refine List.Pairwise.cons (fun z hz=> ?_) h
   rcases List.mem_cons.1 hz with rfl|hz
   ·exact A6 hb
   ·exact List.le_trans (A6 hb) (h1 hz)
  |true=>
   refine List.Pairwise.cons (fun z hz=> ?_) (o9 x h2)
   rcases List.mem_cons.1 ((oB x l).mem_iff.1 hz)with rfl|hz
   ·rw[Go.Proofs.bytesLess_eq,decide_eq_true_eq]at hb
    exact List.le_of_lt hb
   ·exact h1 hz
theorem ko:∀l,(ep l).Pairwise (·≤·)
 |[]=>.nil
 |x::l=>o9 x (ko l)
theorem FW(l:List (List UInt8)):(l.mergeSort fun x y=>decide (x≤y))=ep l:=by
 refine List.Perm.eq_of_pairwise (le:=fun a b=>a≤b) (fun a b _ _ h1 h2=>List.le_antisymm h1 h2) ?_ (ko l) ((List.mergeSort_perm l _).trans (kj l).symm)
 have:=List.pairwise_mergeSort (le:=fun x y:List UInt8=>decide (x≤y)) (fun a b c h1 h2=>by simp only[decide_eq_true_eq]at*;exact List.le_trans h1 h2)
  (fun a b=>by simp only[Bool.or_eq_true,decide_eq_true_eq];exact List.le_total a b) l
 exact this.imp fun h=>by simpa using h
theorem gf(l:List (List UInt8)):(ep l).length=l.length:=(kj l).length_eq
def q9(xs:List AV)(H:Heap):Option (AV×Heap):=match xs with
 |[.cY k off n es]=>match H.boxes[k]? with
  |some cs=>if off=0∧es=1∧0<n∧n≤cs.length∧n≤140737488355328 then(match o8 (cs.take n)with
   |some ss=>some (.tuple [],{H with boxes:=H.boxes.set k ((ep ss).map .str++cs.drop n)})
   |none=>none)else none
  |none=>none
 |[.sl _ []]=>some (.tuple [],H)
 |_=>none
theorem zy{vs:Array Value}{x:AV}(h:fk G w vs [x]):∃u,vs= #[u]∧bG G w u x:=by
 obtain⟨h1,h2⟩:=h
 have hs:vs.size=1:=by simpa using h1
 refine⟨vs[0],?_,by simpa using h2 0 (by omega) (by simp)⟩
 apply Array.ext
 ·simpa using hs
 ·intro i i1 i2
  have:i=0:=by omega
  subst this;rfl
theorem FX{k:Nat}{cs xs:List AV}{us us':Array Value}{e:TypeId}{vs:List Value}(hH:bB P G w H)(hk:G.on k)(hcs:H.boxes[k]?=some cs)(hne:cs≠[])(hb:w.heap[G.μ k]?=some (.cells us e (0,0)))
 (hle:xs.length≤cs.length)(AN:fT G w vs xs)(hcell:xs.all mA=true)(SW:us'.toList=vs++us.toList.drop vs.length)
 (h1:w'.os=w.os)(h2:w'.tape=w.tape)(h3:w'.output=w.output)(h4:w.heap.size≤w'.heap.size)(h5:w'.heap[G.μ k]?=some (.cells us' e (0,0)))(h6:∀b,b<w.heap.size→b≠G.μ k→w'.heap[b]?=w.heap[b]?):
 Step G w G w'∧bB P G w' {H with boxes:=H.boxes.set k (xs++cs.drop xs.length)}:=by
 obtain⟨w1,hr,s1,s2⟩:=sV (off:=0) hH hk hcs hne (by omega) AN hcell
 obtain⟨hlt,k6⟩:=List.getElem?_eq_some_iff.1 hcs
 obtain⟨Y1,e0,hb0,⟨hsz,D8⟩,-⟩:=hH.box k hlt hk.2
 rw[hb]at hb0
 simp only[Option.some.injEq,Obj.cells.injEq]at hb0
 obtain⟨rfl,rfl,-⟩:=hb0
 rw[k6]at hsz
 have hone:∀c∈vs,c.oneCell'=true:=by
  intro c hc
  obtain⟨i,hi,rfl⟩:=List.getElem_of_mem hc
  have hi2:i<xs.length:=by rw[←AN.1];exact hi
  exact(AN.2 i hi hi2).one (List.all_eq_true.1 hcell _ (List.getElem_mem hi2))
 have hrun:=run_storeCells_at P (G.μ k) 0 e vs 0 us w hb (by have:=AN.1;omega) hone
 simp only[Nat.add_zero,List.take_zero,List.nil_append,Nat.zero_add]at hrun
 rw[hrun]at hr
 simp only[Result.ok.injEq,true_and]at hr
 rw[←SW,Array.toArray_toList]at hr
 have e1:dU cs 0 xs=xs++cs.drop xs.length:=by rw[mP _ _ _ (by omega)];simp
 rw[e1]at s2
 have hB:Below w1.heap.size w1 w':=by
  rw[←hr]
  refine⟨h1,h2,h3,by simpa using h4,fun b hb'=> ?_⟩
  by_cases eb:b=G.μ k
  ·subst eb
   rw[h5]
   exact(setRow_heap w (G.μ k) us us' e (0,0) hb).symm
  ·rw[setRow_other _ _ _ _ eb]
   exact h6 b (by simpa using hb') eb
 obtain⟨t1,t2⟩:=q7 s2 hB
 exact⟨s1.trans t1,t2⟩
theorem FY {f : FuncId} (hf : Enters P f)
 (h0 : ∀ (a : Option Addr) (c : Nat) (w : World), Calls P f #[.slice a 0 c] w fun e w' => e = .returned (.tuple #[]) ∧ w' = w)
 (h : ∀ (blk off cap : Nat) (ss : List (List UInt8)) (w : World), Sort.Holds Proofs.encStr w blk off ss.toArray → blk < w.heap.size → ss.length < 4611686018427387904 →
   Calls P f #[.slice (some ⟨blk, off, none⟩) ss.length cap] w fun e w' => e = .returned (.tuple #[]) ∧ ∃ n os, w' = Sort.grow (Sort.putRow Proofs.encStr (Sort.ahead w n) blk off (ss.mergeSort fun x y => decide (x ≤ y)).toArray) os) : o4 P f q9 := by
 intro az H v H' hg G w vs hH hargs
 unfold q9 at hg
 split at hg
 · rename_i k off n es
   split at hg
   · rename_i cs hcs
     split at hg
     · rename_i hc
       obtain ⟨rfl, rfl, hn0, hn, hbig⟩ := hc
       split at hg
       · rename_i ss XK
         simp only [Option.some.injEq, Prod.mk.injEq] at hg
         obtain ⟨rfl, rfl⟩ := hg
         obtain ⟨u, rfl, hr⟩ := zy hargs
         cases hr with
         | cY _ _ _ c _ hk hnc hcm fA hcap =>
         obtain ⟨hlt, k6⟩ := List.getElem?_eq_some_iff.1 hcs
         obtain ⟨us, e, hb, ⟨hsz, D8⟩, bZ⟩ := hH.box k hlt hk.2
         rw [k6] at hsz bZ
         have hl := tI XK
         have Oi : ss.length = n := by
          have := congrArg List.length hl
          simp only [List.length_take, List.length_map] at this
          omega
         have XL : ∀ j (hj : j < ss.length), us[j]? = some (.string ⟨(ss[j]).toArray⟩) := fun j hj => by
          have h1 : (cs.take n)[j]? = some (.str ss[j]) := by rw [hl, List.getElem?_map, List.getElem?_eq_getElem hj]; rfl
          rw [List.getElem?_take, if_pos (by omega)] at h1
          obtain ⟨h2, h3⟩ := List.getElem?_eq_some_iff.1 h1
          have := bZ j (by omega) h2
          rw [h3] at this
          rw [Array.getElem?_eq_getElem (by omega), ki this]
         have XM : Sort.Holds Proofs.encStr w (G.μ k) 0 ss.toArray := fun j hj => by
          have hj' : j < ss.length := by simpa using hj
          have h1 := XL j hj'
          constructor
          · simp only [World.cell?, hb, Option.isSome_none, Bool.false_eq_true, if_false, Nat.zero_add]
            rw [h1, getElem!_pos ss.toArray j hj]
            simp [Proofs.encStr]
          · simp [World.frozen?, hb]
         have dh := h (G.μ k) 0 c ss w XM (Array.getElem?_eq_some_iff.1 hb).1 (by omega)
         rw [Oi] at dh
         refine .inl ⟨w, hf _ _, dh.mono fun e1 w' hh => ?_, rfl⟩
         obtain ⟨rfl, m, os, rfl⟩ := hh
         rw [FW]
         have IF := gf ss
         have hone : ∀ j (hj : j < (ep ss).length), ((ep ss).toArray)[j]! = (ep ss)[j] := fun j hj => by
          rw [getElem!_pos (ep ss).toArray j (by simpa using hj)]; simp
         obtain ⟨s1, s2⟩ := FX (w' := Sort.grow (Sort.putRow Proofs.encStr (Sort.ahead w m) (G.μ k) 0 (ep ss).toArray) os) (xs := (ep ss).map .str) (vs := (ep ss).map fun s => Value.string ⟨s.toArray⟩)
          (us' := Sort.putCells Proofs.encStr 0 (ep ss).toArray us) hH hk hcs (by intro e; rw [e] at hn; simp at hn; omega) hb (by simp; omega)
          ⟨by simp, fun i i1 i2 => by simp only [List.getElem_map]; exact .str _⟩ (List.all_eq_true.2 fun x hx => by obtain ⟨s, -, rfl⟩ := List.mem_map.1 hx; rfl)
          (by
            apply List.ext_getElem?
            intro q
            simp only [Sort.putCells, Array.getElem?_toList, Array.getElem?_mapIdx, List.size_toArray, Nat.zero_le, true_and, Nat.zero_add, Nat.sub_zero]
            by_cases hq : q < (ep ss).length
            · rw [List.getElem?_append_left (by simpa using hq)]
              rw [Array.getElem?_eq_getElem (by omega)]
              simp only [Option.map_some, if_pos hq, hone q hq, List.getElem?_map, List.getElem?_eq_getElem hq]
            · rw [List.getElem?_append_right (by simpa using hq)]
              simp only [List.length_map, List.getElem?_drop, Array.getElem?_toList]
              rw [show (ep ss).length + (q - (ep ss).length) = q by omega]
              cases us[q]? with
              | none => rfl
              | some x => simp [hq])
          rfl rfl rfl (by simp [Sort.grow, Sort.putRow, Sort.mapBlock, Sort.ahead])
          (by
            have hlt2 : G.μ k < (Sort.putRow Proofs.encStr (Sort.ahead w m) (G.μ k) 0 (ep ss).toArray).heap.size := by simp [Sort.putRow, Sort.mapBlock, Sort.ahead]; exact (Array.getElem?_eq_some_iff.1 hb).1
            rw [Sort.heap_grow_old _ _ hlt2]
            simp only [Sort.putRow, Sort.mapBlock, Sort.ahead, Array.getElem?_modify, if_true, hb, Option.map_some, Sort.onCells])
          (fun b hb1 hb2 => by
            have hlt2 : b < (Sort.putRow Proofs.encStr (Sort.ahead w m) (G.μ k) 0 (ep ss).toArray).heap.size := by simp [Sort.putRow, Sort.mapBlock, Sort.ahead]; exact hb1
            rw [Sort.heap_grow_old _ _ hlt2]
            simp only [Sort.putRow, Sort.mapBlock, Sort.ahead, Array.getElem?_modify, if_neg (Ne.symm hb2)])
         refine ⟨G, s1, ?_, _, rfl, .tuple _ _ rfl (fun i h1 => absurd h1 (by simp))⟩
         rw [List.length_map, IF, Oi] at s2
         exact s2
       · cases hg
     · cases hg
   · cases hg
 · simp only [Option.some.injEq, Prod.mk.injEq] at hg
   obtain ⟨rfl, rfl⟩ := hg
   obtain ⟨u, rfl, hr⟩ := zy hargs
   cases hr with
   | gZ a c =>
     refine .inl ⟨w, hf _ _, (h0 a c w).mono fun e1 w' hh => ?_, rfl⟩
     obtain ⟨rfl, rfl⟩ := hh
     exact ⟨G, .refl _ _, hH, _, rfl, .tuple _ _ rfl (fun i h1 => absurd h1 (by simp))⟩
   | sl _ _ _ _ _ _ hl => exact absurd rfl hl
 · cases hg
end Go.Aa
namespace Go.Aa
def zz(es bytes:Nat)(xs:List AV)(H:Heap):Option (AV×Heap):=match xs with
 |[.sl k l]=>ef es bytes H (.sl .full []) (.sl k l)
 |_=>none
end Go.Aa
namespace Go.Aa
open Go.RowKit
variable{P:Program}{G:aF}{w w':World}{H:Heap}
theorem xj{az:AV}{vs:Array Value}(h:fk G w vs [az]):∃v,vs= #[v]∧bG G w v az:=by
 obtain⟨hs,h2⟩:=h
 simp only[List.length_cons,List.length_nil]at hs
 refine⟨vs[0],?_,by simpa using h2 0 (by omega) (by simp)⟩
 apply Array.ext
 ·simpa using hs
 ·intro i i1 i2
  have:i=0:=by omega
  subst this;rfl
theorem Jy{v:Value}{k:IntKind}{n:Int}(h:bG G w v (.int k n)):v=.int k n:=by cases h;rfl
end Go.Aa
namespace Go.Aa
open Go.RowKit Go.ChangeShapes Go.WideShapes Go.ChangeAt
section
variable{H:Type}{enc:TypeId×Value→H}{P:Program}{w:World}{base:Nat}{sp:Nat→Bool}{held:Bool}{G:aF}
theorem xk{α β:Type}{f:α→Option β}:∀{l:List α}{r:List β},l.mapM f=some r→r.length=l.length
 |[],r,h=>by cases h;rfl
 |x::l,r,h=>by
  rw[List.mapM_cons]at h
  cases hx:f x with
  |none=>rw[hx]at h;cases h
  |some y=>
   cases hl:l.mapM f with
   |none=>rw[hx,hl]at h;cases h
   |some ys=>
    rw[hx,hl]at h
    cases h
    simp[xk hl]
theorem FZ{t e:TypeId}{v:Value}{d:DataW H}{ps:List MemPlace}{l:List AV}{k:SK}(hu:P.underlying t=some (.slice e))(hr:bG G w v (.sl k l))(ht:DataW.Trod enc P w base sp held t v d ps)
 (hw:(d.weights P t).all (·≤reachBytes)=true):l.length*P.bytesOf e≤reachBytes:=by
 cases hr with
 |gZ=>simp
 |sl a c _ _ es us hl hc hcm hs ji fA hd hlim hcell bZ hfull hown=>
  obtain⟨fuel,h⟩:=ht
  cases fuel with
  |zero=>cases h
  |succ fuel=>
   simp only[DataW.trod,hu,Value.cells]at h
   split at h
   ·cases he:(List.range l.length).mapM (fun i=>(w.cells? base (a.add (i*P.cellsOf e)) (P.cellsOf e)).bind (DataW.trod enc P w base sp held fuel e))with
    |none=>rw[he]at h;cases h
    |some elems=>
     rw[he,Option.bind_some,Option.map_eq_some_iff]at h
     obtain⟨rest,-,h⟩:=h
     cases h
     have e1:elems.length=l.length:=by rw[xk he,List.length_range]
     simp only[DataW.weights,hu,List.all_cons,Bool.and_eq_true,decide_eq_true_eq,List.length_map]at hw
     have:=hw.1
     rw[e1]at this
     exact Nat.le_trans (Nat.mul_le_mul_right _ (Nat.le_add_right _ _)) this
   ·cases h
theorem Nh{t:TypeId}{v:Value}{d:DataW H}{ps:List MemPlace}{s:List UInt8}(hu:P.underlying t=some .string)(hr:bG G w v (.str s))(ht:DataW.Trod enc P w base sp held t v d ps)
 (hw:(d.weights P t).all (·≤reachBytes)=true):s.length≤reachBytes:=by
 cases hr with
 |str s=>
  obtain⟨fuel,h⟩:=ht
  cases fuel with
  |zero=>cases h
  |succ fuel=>
   simp only[DataW.trod,hu,Value.cells]at h
   split at h
   ·cases h
    simpa[DataW.weights]using hw
   ·cases h
def XN(P:Program)(t:TypeId)(x:AV):Prop:=(∀e k l,P.underlying t=some (.slice e)→x=.sl k l→l.length*P.bytesOf e≤reachBytes)∧(∀s,P.underlying t=some .string→x=.str s→s.length≤reachBytes)
def tJ(P:Program):List TypeId→List AV→Prop
 |t::ts,x::xs=>XN P t x∧tJ P ts xs
 |_,_=>True
theorem F0:∀{ts us:List TypeId}{vs:List Value}{ds gs:List (DataW H)}{ps:List MemPlace}{xs:List AV},DataW.TrodAll enc P w base sp held ts vs ds ps→(DataW.weightsEach P (ts++us) (ds++gs)).all (·≤reachBytes)=true→
 (∀(i:Nat)v y,vs[i]?=some v→xs[i]?=some y→bG G w v y)→tJ P ts xs
 |[],_,_,_,_,_,_,_,_,_=>by unfold tJ;trivial
 |t::ts,us,[],ds,gs,ps,xs,h,_,_=>h.elim
 |t::ts,us,v::vs,[],gs,ps,xs,h,_,_=>h.elim
 |t::ts,us,v::vs,d::ds,gs,ps,[],_,_,_=>by unfold tJ;trivial
 |t::ts,us,v::vs,d::ds,gs,ps,x::xs,⟨p,q,h1,h2,_⟩,hw,hr=>by
  simp only[List.cons_append,DataW.weightsEach,List.all_append,Bool.and_eq_true]at hw
  refine⟨⟨fun e k l hu hx=> ?_,fun s hu hx=> ?_⟩,F0 h2 hw.2 (fun i v y a b=>hr (i+1) v y a b)⟩
  ·subst hx;exact FZ hu (hr 0 _ _ rfl rfl) h1 hw.1
  ·subst hx;exact Nh hu (hr 0 _ _ rfl rfl) h1 hw.1
theorem nG:∀{ts us:List TypeId}{ds gs:List (DataW H)},(DataW.weightsEach P (ts++us) (ds++gs)).all (·≤reachBytes)=true→(DataW.weightsEach P ts ds).all (·≤reachBytes)=true
 |[],_,_,_,_=>by simp[DataW.weightsEach]
 |_::_,_,[],_,_=>by simp[DataW.weightsEach]
 |t::ts,us,d::ds,gs,h=>by
  simp only[List.cons_append,DataW.weightsEach,List.all_append,Bool.and_eq_true]at h⊢
  exact⟨h.1,nG h.2⟩
theorem law_rowZ{cfg:mj}(pI:AY P cfg){f:FuncId}(hF:(cfg.F f).isSome=true)(hx:cfg.ext f=none)(ht:cfg.vJ f=false){fn:Func}{s:ChangeSpec}{k:Nat}{tb:TypeId}{apart fresh handsOn again:Bool}
 (hpl:fn.params.toList.all (ig P k)=true)(WC:fn.resultTypes= #[tb])(hb:P.underlying tb=some .bool)(WD:s.vars=[])
 (hfn:∀ds:List (DataW H),ds.length=fn.params.toList.length→s.fn H ds={results:=[.lit (.bool true)],args:=ds})
 (TF:∀xs,xd P k fn.params.toList xs→tJ P fn.params.toList xs→∃H',lim cfg (.fn f) xs Heap.nil=some (.ret (.bool true),H'))
 {W:World}{base:Nat}{args:Array Value}{ds gs:List (DataW H)}{before:List MemPlace}
 (hval:∀(j:Nat)t v,fn.params[j]?=some t→args[j]?=some v→Value.okWide P W .any base t v)
 (hW:DataW.Whole enc P fn.params.toList s.vars apart W args.toList ds gs before)(hwt:(DataW.weightsEach P (fn.params.toList++s.plain.varTypes P) (ds++gs)).all (·≤reachBytes)=true)
 (hg:FR P W:=by exact glob0_none (by kernel_rfl) W):
 Calls P f args W fun e W'=>∃v,e=.returned v∧s.post enc P fn apart fresh handsOn again W args v W':=by
 have WE:=hW
 obtain⟨p,q,hA,hV,rfl,hfz,hnd⟩:=hW
 rw[WD]at hV
 obtain⟨rfl,rfl⟩:=trodVars_none hV
 rw[List.append_nil]at WE
 obtain⟨xs,x1,x2,x3⟩:=A3 (G:=GW W) Nf hpl (fun j t v a b=>hval j t v (by simpa using a) (by simpa using b)) hA (nG hwt)
 obtain⟨H',hl⟩:=TF xs x3 (F0 hA hwt x2)
 obtain⟨n,hn⟩:=dL.1 hl
 refine(Ex pI hn hF hx ht (Jv W hg) ⟨by rw[x1];simp,fun i h1 h2=>x2 i _ _ (by simp[h1]) (List.getElem?_eq_getElem h2)⟩).mono fun e W'⟨u,G',he,hst,hr⟩=> ?_
 cases hr
 have hB:=zq hst rfl rfl rfl
 obtain⟨l1,l2⟩:=A4 hA
 have Ni:=hfn ds l2
 refine⟨_,he,sr (pa:=p) (pv:=[]) WE ?_ ?_ ?_ (by simp) hB ?_⟩
 ·intro b sp hd
  rw[List.append_nil,Ni,WC]
  exact trodAll_mk1 (shut_bool hb _)
 ·intro sp hsp
  rw[List.append_nil,Ni]
  exact xe hB hpl hsp hA
 ·intro sp hsp
  rw[List.append_nil,Ni,WD]
  rfl
 ·exact ok_one WC rfl (okWide_bool_mk hb _)
end
end Go.Aa
namespace Go.Aa
end Go.Aa
namespace Go.Aa
def A7(xs:List AV)(H:Heap):Option (AV×Heap):=match xs with
 |[.bQ b]=>some (.int .u64 b,H)
 |_=>none
theorem F1{P:Program}{f:FuncId}(h:∀(b:Nat)(w:World),(callFunc f #[.float .f64 b]).run P w=.ok (.value (.int .u64 b)) w):o4 P f A7:=by
 intro xs H v H' hg G w vs hH hargs
 unfold A7 at hg
 split at hg
 ·rename_i b
  simp only[Option.some.injEq,Prod.mk.injEq]at hg
  obtain⟨rfl,rfl⟩:=hg
  obtain⟨u,rfl,hr⟩:=xj hargs
  cases hr
  exact .inr ⟨_,w,h b w,G,.refl _ _,hH,_,rfl,.int _ _⟩
 ·cases hg
def lX(xs:List AV)(H:Heap):Option (AV×Heap):=match xs with
 |[.int .u64 n]=>if 0≤n∧n<18446744073709551616 then some (lD n.toNat,H)else none
 |_=>none
theorem uL{P:Program}{f:FuncId}(h:∀(n:Int)(w:World),(callFunc f #[.int .u64 n]).run P w=.ok (.value (.float .f64 n.toNat)) w):o4 P f lX:=by
 intro xs H v H' hg G w vs hH hargs
 unfold lX at hg
 split at hg
 ·rename_i n
  split at hg
  ·simp only[Option.some.injEq,Prod.mk.injEq]at hg
   obtain⟨rfl,rfl⟩:=hg
   obtain⟨u,rfl,hr⟩:=xj hargs
   cases Jy hr
   exact .inr ⟨_,w,h n w,G,.refl _ _,hH,_,rfl,ow _⟩
  ·cases hg
 ·cases hg
end Go.Aa
set_option maxRecDepth 100000
namespace Go.Aa.T
open Go.Aa
def Nj:Nat→Option (List AV→Heap→Option (AV×Heap))
 |279=>some xh
 |227=>some q9
 |278=>some zu
 |277=>some zw
 |152=>some (zz 11 184)
 |201=>some A7
 |258=>some lX
 |_=>none
def QD(f:Nat):Bool:=f==66
def cfg:mj:={F:=FB,ext:=Nj,vJ:=QD,vK:=211}
def WG:Option (cZ×Heap)→Bool
 |some (.ret (.bool b),_)=>b
 |_=>false
theorem Jz:WG (cK cfg 3000 (.fn 25) [] Heap.nil)=true:=by kernel_rfl
theorem xm:∃H',lim cfg (.fn 25) [] Heap.nil=some (.ret (.bool true),H'):=by
 have h:=Jz
 unfold WG at h
 split at h
 ·rename_i b H' hc
  subst h
  exact⟨H',FD hc⟩
 ·cases h
theorem l5(xs:List AV)(H:Heap):lim cfg (.fn 5) xs H=bp cfg a5 [.c c5] (ay xs) H:=aN rfl rfl rfl xs H
theorem XO(xs:List AV)(H:Heap):lim cfg (.fn 15) xs H=bp cfg Tk [.c VX] (ay xs) H:=aN rfl rfl rfl xs H
theorem XP(xs:List AV)(H:Heap):lim cfg (.fn 16) xs H=bp cfg Tl [.c VY] (ay xs) H:=aN rfl rfl rfl xs H
theorem XQ(xs:List AV)(H:Heap):lim cfg (.fn 18) xs H=bp cfg Tm [.c VZ] (ay xs) H:=aN rfl rfl rfl xs H
theorem XR(xs:List AV)(H:Heap):lim cfg (.fn 19) xs H=bp cfg Si [.c V0] (ay xs) H:=aN rfl rfl rfl xs H
theorem XS(xs:List AV)(H:Heap):lim cfg (.fn 20) xs H=bp cfg a20 [.c V1] (ay xs) H:=aN rfl rfl rfl xs H
theorem XT(xs:List AV)(H:Heap):lim cfg (.fn 24) xs H=bp cfg a24 [.c V2] (ay xs) H:=aN rfl rfl rfl xs H
theorem XU(xs:List AV)(H:Heap):lim cfg (.fn 26) xs H=bp cfg Tn [.c V4] (ay xs) H:=aN rfl rfl rfl xs H
theorem XV(xs:List AV)(H:Heap):lim cfg (.fn 27) xs H=bp cfg Ot [.c V5] (ay xs) H:=aN rfl rfl rfl xs H
theorem XW(xs:List AV)(H:Heap):lim cfg (.fn 28) xs H=bp cfg a28 [.c V6] (ay xs) H:=aN rfl rfl rfl xs H
theorem XX(xs:List AV)(H:Heap):lim cfg (.fn 29) xs H=bp cfg Sj [.c V7] (ay xs) H:=aN rfl rfl rfl xs H
theorem XY(xs:List AV)(H:Heap):lim cfg (.fn 30) xs H=bp cfg Sk [.c V8] (ay xs) H:=aN rfl rfl rfl xs H
theorem XZ(xs:List AV)(H:Heap):lim cfg (.fn 31) xs H=bp cfg a31 [.c V9] (ay xs) H:=aN rfl rfl rfl xs H
theorem X0(xs:List AV)(H:Heap):lim cfg (.fn 32) xs H=bp cfg a32 [.c V'] (ay xs) H:=aN rfl rfl rfl xs H
theorem X1(xs:List AV)(H:Heap):lim cfg (.fn 33) xs H=bp cfg L8 [.c Wa] (ay xs) H:=aN rfl rfl rfl xs H
theorem X2(xs:List AV)(H:Heap):lim cfg (.fn 34) xs H=bp cfg Sl [.c Wb] (ay xs) H:=aN rfl rfl rfl xs H
theorem X3(xs:List AV)(H:Heap):lim cfg (.fn 48) xs H=bp cfg Sm [.c Wd] (ay xs) H:=aN rfl rfl rfl xs H
theorem X4(xs:List AV)(H:Heap):lim cfg (.fn 49) xs H=bp cfg a49 [.c We] (ay xs) H:=aN rfl rfl rfl xs H
theorem WH(xs:List AV)(H:Heap):lim cfg (.fn 50) xs H=bp cfg To [.c Wf] (ay xs) H:=aN rfl rfl rfl xs H
theorem X5(xs:List AV)(H:Heap):lim cfg (.fn 51) xs H=bp cfg a51 [.c Wg] (ay xs) H:=aN rfl rfl rfl xs H
theorem X6(xs:List AV)(H:Heap):lim cfg (.fn 52) xs H=bp cfg O6 [.c Wh] (ay xs) H:=aN rfl rfl rfl xs H
theorem X7(xs:List AV)(H:Heap):lim cfg (.fn 53) xs H=bp cfg a53 [.c Wi] (ay xs) H:=aN rfl rfl rfl xs H
theorem X8(xs:List AV)(H:Heap):lim cfg (.fn 54) xs H=bp cfg Sn [.c Wj] (ay xs) H:=aN rfl rfl rfl xs H
theorem X9(xs:List AV)(H:Heap):lim cfg (.fn 55) xs H=bp cfg Sp [.c Wk] (ay xs) H:=aN rfl rfl rfl xs H
theorem Ya(xs:List AV)(H:Heap):lim cfg (.fn 56) xs H=bp cfg Sq [.c Tp] (ay xs) H:=aN rfl rfl rfl xs H
theorem Yb(xs:List AV)(H:Heap):lim cfg (.fn 57) xs H=bp cfg Sr [.c Tq] (ay xs) H:=aN rfl rfl rfl xs H
theorem Yc(xs:List AV)(H:Heap):lim cfg (.fn 58) xs H=bp cfg Ss [.c Tr] (ay xs) H:=aN rfl rfl rfl xs H
theorem Yd(xs:List AV)(H:Heap):lim cfg (.fn 59) xs H=bp cfg a59 [.c Wl] (ay xs) H:=aN rfl rfl rfl xs H
theorem Ye(xs:List AV)(H:Heap):lim cfg (.fn 60) xs H=bp cfg Su [.c Wm] (ay xs) H:=aN rfl rfl rfl xs H
theorem Yf(xs:List AV)(H:Heap):lim cfg (.fn 63) xs H=bp cfg Ts [.c Wn] (ay xs) H:=aN rfl rfl rfl xs H
theorem WI(xs:List AV)(H:Heap):lim cfg (.fn 64) xs H=bp cfg a64 [.c Wo] (ay xs) H:=aN rfl rfl rfl xs H
theorem Yg(xs:List AV)(H:Heap):lim cfg (.fn 65) xs H=bp cfg Tt [.c Wp] (ay xs) H:=aN rfl rfl rfl xs H
theorem Yh(xs:List AV)(H:Heap):lim cfg (.fn 67) xs H=bp cfg O7 [.c Tu] (ay xs) H:=aN rfl rfl rfl xs H
theorem WJ(xs:List AV)(H:Heap):lim cfg (.fn 68) xs H=bp cfg Tv [.c Wq] (ay xs) H:=aN rfl rfl rfl xs H
theorem Yi(xs:List AV)(H:Heap):lim cfg (.fn 69) xs H=bp cfg Tw [.c Wr] (ay xs) H:=aN rfl rfl rfl xs H
theorem F2(xs:List AV)(H:Heap):lim cfg (.fn 70) xs H=bp cfg a70 [.c DQ] (ay xs) H:=aN rfl rfl rfl xs H
theorem Yj(xs:List AV)(H:Heap):lim cfg (.fn 71) xs H=bp cfg Sv [.c Ws] (ay xs) H:=aN rfl rfl rfl xs H
theorem Yk(xs:List AV)(H:Heap):lim cfg (.fn 72) xs H=bp cfg a72 [.c Wt] (ay xs) H:=aN rfl rfl rfl xs H
theorem Yl(xs:List AV)(H:Heap):lim cfg (.fn 73) xs H=bp cfg Sw [.c Wu] (ay xs) H:=aN rfl rfl rfl xs H
theorem Ym(xs:List AV)(H:Heap):lim cfg (.fn 74) xs H=bp cfg Sx [.c Wv] (ay xs) H:=aN rfl rfl rfl xs H
theorem Yn(xs:List AV)(H:Heap):lim cfg (.fn 75) xs H=bp cfg a75 [.c Ww] (ay xs) H:=aN rfl rfl rfl xs H
theorem Yo(xs:List AV)(H:Heap):lim cfg (.fn 76) xs H=bp cfg a76 [.c Wx] (ay xs) H:=aN rfl rfl rfl xs H
theorem Yp(xs:List AV)(H:Heap):lim cfg (.fn 77) xs H=bp cfg Sy [.c Tx] (ay xs) H:=aN rfl rfl rfl xs H
theorem Yq(xs:List AV)(H:Heap):lim cfg (.fn 78) xs H=bp cfg Sz [.c Tz] (ay xs) H:=aN rfl rfl rfl xs H
theorem Yr(xs:List AV)(H:Heap):lim cfg (.fn 81) xs H=bp cfg SA [.c Wy] (ay xs) H:=aN rfl rfl rfl xs H
theorem Ys(xs:List AV)(H:Heap):lim cfg (.fn 84) xs H=bp cfg SB [.c Wz] (ay xs) H:=aN rfl rfl rfl xs H
theorem WK(xs:List AV)(H:Heap):lim cfg (.fn 85) xs H=bp cfg a85 [.c WA] (ay xs) H:=aN rfl rfl rfl xs H
theorem QE(xs:List AV)(H:Heap):lim cfg (.fn 108) xs H=bp cfg L9 [.c O8] (ay xs) H:=aN rfl rfl rfl xs H
theorem QF(xs:List AV)(H:Heap):lim cfg (.fn 109) xs H=bp cfg a109 [.c O9] (ay xs) H:=aN rfl rfl rfl xs H
theorem TG(xs:List AV)(H:Heap):lim cfg (.fn 112) xs H=bp cfg Ma [.c Pb] (ay xs) H:=aN rfl rfl rfl xs H
theorem QG(xs:List AV)(H:Heap):lim cfg (.fn 113) xs H=bp cfg Mb [.c Pc] (ay xs) H:=aN rfl rfl rfl xs H
theorem TH(xs:List AV)(H:Heap):lim cfg (.fn 114) xs H=bp cfg Mc [.c Pd] (ay xs) H:=aN rfl rfl rfl xs H
theorem TI(xs:List AV)(H:Heap):lim cfg (.fn 115) xs H=bp cfg IK [.c Pe] (ay xs) H:=aN rfl rfl rfl xs H
theorem TJ(xs:List AV)(H:Heap):lim cfg (.fn 116) xs H=bp cfg a116 [.c Pf] (ay xs) H:=aN rfl rfl rfl xs H
theorem TK(xs:List AV)(H:Heap):lim cfg (.fn 117) xs H=bp cfg a117 [.c Pg] (ay xs) H:=aN rfl rfl rfl xs H
theorem TL(xs:List AV)(H:Heap):lim cfg (.fn 118) xs H=bp cfg IL [.c Ph] (ay xs) H:=aN rfl rfl rfl xs H
theorem TM(xs:List AV)(H:Heap):lim cfg (.fn 119) xs H=bp cfg a119 [.c Pj] (ay xs) H:=aN rfl rfl rfl xs H
theorem TN(xs:List AV)(H:Heap):lim cfg (.fn 120) xs H=bp cfg IM [.c Pk] (ay xs) H:=aN rfl rfl rfl xs H
theorem TO(xs:List AV)(H:Heap):lim cfg (.fn 121) xs H=bp cfg IN [.c Pm] (ay xs) H:=aN rfl rfl rfl xs H
theorem TP(xs:List AV)(H:Heap):lim cfg (.fn 122) xs H=bp cfg IP [.c Pn] (ay xs) H:=aN rfl rfl rfl xs H
theorem TQ(xs:List AV)(H:Heap):lim cfg (.fn 123) xs H=bp cfg IQ [.c Po] (ay xs) H:=aN rfl rfl rfl xs H
theorem TR(xs:List AV)(H:Heap):lim cfg (.fn 124) xs H=bp cfg a124 [.c Pp] (ay xs) H:=aN rfl rfl rfl xs H
theorem TS(xs:List AV)(H:Heap):lim cfg (.fn 125) xs H=bp cfg Md [.c Pq] (ay xs) H:=aN rfl rfl rfl xs H
theorem TT(xs:List AV)(H:Heap):lim cfg (.fn 126) xs H=bp cfg Me [.c Pt] (ay xs) H:=aN rfl rfl rfl xs H
theorem TU(xs:List AV)(H:Heap):lim cfg (.fn 127) xs H=bp cfg a127 [.c Mf] (ay xs) H:=aN rfl rfl rfl xs H
theorem TV(xs:List AV)(H:Heap):lim cfg (.fn 128) xs H=bp cfg Mg [.c Pu] (ay xs) H:=aN rfl rfl rfl xs H
theorem QH(xs:List AV)(H:Heap):lim cfg (.fn 129) xs H=bp cfg Mh [.c Pv] (ay xs) H:=aN rfl rfl rfl xs H
theorem TW(xs:List AV)(H:Heap):lim cfg (.fn 131) xs H=bp cfg a131 [.c Pw] (ay xs) H:=aN rfl rfl rfl xs H
theorem TX(xs:List AV)(H:Heap):lim cfg (.fn 132) xs H=bp cfg Mi [.c Px] (ay xs) H:=aN rfl rfl rfl xs H
theorem TY(xs:List AV)(H:Heap):lim cfg (.fn 133) xs H=bp cfg Mj [.c Py] (ay xs) H:=aN rfl rfl rfl xs H
theorem TZ(xs:List AV)(H:Heap):lim cfg (.fn 135) xs H=bp cfg IS [.c Pz] (ay xs) H:=aN rfl rfl rfl xs H
theorem QI(xs:List AV)(H:Heap):lim cfg (.fn 136) xs H=bp cfg EK [.c IT] (ay xs) H:=aN rfl rfl rfl xs H
theorem T0(xs:List AV)(H:Heap):lim cfg (.fn 137) xs H=bp cfg IU [.c PA] (ay xs) H:=aN rfl rfl rfl xs H
theorem T3(xs:List AV)(H:Heap):lim cfg (.fn 138) xs H=bp cfg a138 [.c Mk] (ay xs) H:=aN rfl rfl rfl xs H
theorem T4(xs:List AV)(H:Heap):lim cfg (.fn 139) xs H=bp cfg a139 [.c PB] (ay xs) H:=aN rfl rfl rfl xs H
theorem T6(xs:List AV)(H:Heap):lim cfg (.fn 140) xs H=bp cfg IV [.c Ml] (ay xs) H:=aN rfl rfl rfl xs H
theorem T7(xs:List AV)(H:Heap):lim cfg (.fn 141) xs H=bp cfg a141 [.c Mm] (ay xs) H:=aN rfl rfl rfl xs H
theorem T8(xs:List AV)(H:Heap):lim cfg (.fn 142) xs H=bp cfg IW [.c Mn] (ay xs) H:=aN rfl rfl rfl xs H
theorem T9(xs:List AV)(H:Heap):lim cfg (.fn 143) xs H=bp cfg a143 [.c Mo] (ay xs) H:=aN rfl rfl rfl xs H
theorem Ua(xs:List AV)(H:Heap):lim cfg (.fn 144) xs H=bp cfg IX [.c Mp] (ay xs) H:=aN rfl rfl rfl xs H
theorem QJ(xs:List AV)(H:Heap):lim cfg (.fn 145) xs H=bp cfg a145 [.c IY] (ay xs) H:=aN rfl rfl rfl xs H
theorem Ub(xs:List AV)(H:Heap):lim cfg (.fn 146) xs H=bp cfg a146 [.c Mq] (ay xs) H:=aN rfl rfl rfl xs H
theorem Uc(xs:List AV)(H:Heap):lim cfg (.fn 147) xs H=bp cfg Mr [.c PC] (ay xs) H:=aN rfl rfl rfl xs H
theorem QK(xs:List AV)(H:Heap):lim cfg (.fn 148) xs H=bp cfg a148 [.c PD] (ay xs) H:=aN rfl rfl rfl xs H
theorem Ud(xs:List AV)(H:Heap):lim cfg (.fn 149) xs H=bp cfg IZ [.c PE] (ay xs) H:=aN rfl rfl rfl xs H
theorem Ue(xs:List AV)(H:Heap):lim cfg (.fn 150) xs H=bp cfg EP [.c Ms] (ay xs) H:=aN rfl rfl rfl xs H
theorem Uf(xs:List AV)(H:Heap):lim cfg (.fn 157) xs H=bp cfg a157 [.c PF] (ay xs) H:=aN rfl rfl rfl xs H
theorem Ug(xs:List AV)(H:Heap):lim cfg (.fn 158) xs H=bp cfg Ch [.c I0] (ay xs) H:=aN rfl rfl rfl xs H
theorem QL(xs:List AV)(H:Heap):lim cfg (.fn 159) xs H=bp cfg a159 [.c PG] (ay xs) H:=aN rfl rfl rfl xs H
theorem Uh(xs:List AV)(H:Heap):lim cfg (.fn 160) xs H=bp cfg a160 [.c PI] (ay xs) H:=aN rfl rfl rfl xs H
theorem Ui(xs:List AV)(H:Heap):lim cfg (.fn 161) xs H=bp cfg Ci [.c PJ] (ay xs) H:=aN rfl rfl rfl xs H
theorem Uj(xs:List AV)(H:Heap):lim cfg (.fn 165) xs H=bp cfg Mt [.c PK] (ay xs) H:=aN rfl rfl rfl xs H
theorem QM(xs:List AV)(H:Heap):lim cfg (.fn 192) xs H=bp cfg Mu [.c PL] (ay xs) H:=aN rfl rfl rfl xs H
theorem Uk(xs:List AV)(H:Heap):lim cfg (.fn 193) xs H=bp cfg a193 [.c PM] (ay xs) H:=aN rfl rfl rfl xs H
theorem Ul(xs:List AV)(H:Heap):lim cfg (.fn 196) xs H=bp cfg a196 [.c PN] (ay xs) H:=aN rfl rfl rfl xs H
theorem Um(xs:List AV)(H:Heap):lim cfg (.fn 197) xs H=bp cfg I1 [.c PO] (ay xs) H:=aN rfl rfl rfl xs H
theorem Un(xs:List AV)(H:Heap):lim cfg (.fn 198) xs H=bp cfg a198 [.c PS] (ay xs) H:=aN rfl rfl rfl xs H
theorem Uo(xs:List AV)(H:Heap):lim cfg (.fn 199) xs H=bp cfg I2 [.c PT] (ay xs) H:=aN rfl rfl rfl xs H
theorem Up(xs:List AV)(H:Heap):lim cfg (.fn 202) xs H=bp cfg I3 [.c PV] (ay xs) H:=aN rfl rfl rfl xs H
theorem Uq(xs:List AV)(H:Heap):lim cfg (.fn 203) xs H=bp cfg a203 [.c PW] (ay xs) H:=aN rfl rfl rfl xs H
theorem Ur(xs:List AV)(H:Heap):lim cfg (.fn 204) xs H=bp cfg I4 [.c PX] (ay xs) H:=aN rfl rfl rfl xs H
theorem Ut(xs:List AV)(H:Heap):lim cfg (.fn 205) xs H=bp cfg I5 [.c PY] (ay xs) H:=aN rfl rfl rfl xs H
theorem Uu(xs:List AV)(H:Heap):lim cfg (.fn 206) xs H=bp cfg a206 [.c PZ] (ay xs) H:=aN rfl rfl rfl xs H
theorem Uv(xs:List AV)(H:Heap):lim cfg (.fn 207) xs H=bp cfg Mv [.c P0] (ay xs) H:=aN rfl rfl rfl xs H
theorem Uw(xs:List AV)(H:Heap):lim cfg (.fn 208) xs H=bp cfg a208 [.c P3] (ay xs) H:=aN rfl rfl rfl xs H
theorem Ux(xs:List AV)(H:Heap):lim cfg (.fn 209) xs H=bp cfg Mw [.c P4] (ay xs) H:=aN rfl rfl rfl xs H
theorem Uy(xs:List AV)(H:Heap):lim cfg (.fn 210) xs H=bp cfg a210 [.c P5] (ay xs) H:=aN rfl rfl rfl xs H
theorem Uz(xs:List AV)(H:Heap):lim cfg (.fn 211) xs H=bp cfg I6 [.c P6] (ay xs) H:=aN rfl rfl rfl xs H
theorem UA(xs:List AV)(H:Heap):lim cfg (.fn 212) xs H=bp cfg a212 [.c P7] (ay xs) H:=aN rfl rfl rfl xs H
theorem UB(xs:List AV)(H:Heap):lim cfg (.fn 213) xs H=bp cfg a213 [.c P8] (ay xs) H:=aN rfl rfl rfl xs H
theorem UC(xs:List AV)(H:Heap):lim cfg (.fn 214) xs H=bp cfg Mx [.c P9] (ay xs) H:=aN rfl rfl rfl xs H
theorem UD(xs:List AV)(H:Heap):lim cfg (.fn 215) xs H=bp cfg My [.c Qa] (ay xs) H:=aN rfl rfl rfl xs H
theorem UE(xs:List AV)(H:Heap):lim cfg (.fn 216) xs H=bp cfg I7 [.c Qb] (ay xs) H:=aN rfl rfl rfl xs H
theorem UF(xs:List AV)(H:Heap):lim cfg (.fn 217) xs H=bp cfg E8 [.c Mz] (ay xs) H:=aN rfl rfl rfl xs H
theorem UG(xs:List AV)(H:Heap):lim cfg (.fn 218) xs H=bp cfg a218 [.c MA] (ay xs) H:=aN rfl rfl rfl xs H
theorem UH(xs:List AV)(H:Heap):lim cfg (.fn 219) xs H=bp cfg I8 [.c Qc] (ay xs) H:=aN rfl rfl rfl xs H
theorem UI(xs:List AV)(H:Heap):lim cfg (.fn 220) xs H=bp cfg Fc [.c Qd] (ay xs) H:=aN rfl rfl rfl xs H
theorem UJ(xs:List AV)(H:Heap):lim cfg (.fn 221) xs H=bp cfg wR [.c MB] (ay xs) H:=aN rfl rfl rfl xs H
theorem UK(xs:List AV)(H:Heap):lim cfg (.fn 223) xs H=bp cfg I9 [.c Qe] (ay xs) H:=aN rfl rfl rfl xs H
theorem UL(xs:List AV)(H:Heap):lim cfg (.fn 224) xs H=bp cfg Ja [.c MC] (ay xs) H:=aN rfl rfl rfl xs H
theorem UM(xs:List AV)(H:Heap):lim cfg (.fn 225) xs H=bp cfg Jb [.c MD] (ay xs) H:=aN rfl rfl rfl xs H
theorem UN(xs:List AV)(H:Heap):lim cfg (.fn 226) xs H=bp cfg a226 [.c Cj] (ay xs) H:=aN rfl rfl rfl xs H
theorem QN(xs:List AV)(H:Heap):lim cfg (.fn 228) xs H=bp cfg a228 [.c ME] (ay xs) H:=aN rfl rfl rfl xs H
theorem QO(xs:List AV)(H:Heap):lim cfg (.fn 229) xs H=bp cfg a229 [.c Jc] (ay xs) H:=aN rfl rfl rfl xs H
theorem UO(xs:List AV)(H:Heap):lim cfg (.fn 232) xs H=bp cfg a232 [.c MF] (ay xs) H:=aN rfl rfl rfl xs H
theorem UP(xs:List AV)(H:Heap):lim cfg (.fn 233) xs H=bp cfg a233 [.c MG] (ay xs) H:=aN rfl rfl rfl xs H
theorem UQ(xs:List AV)(H:Heap):lim cfg (.fn 235) xs H=bp cfg MH [.c Qf] (ay xs) H:=aN rfl rfl rfl xs H
theorem UR(xs:List AV)(H:Heap):lim cfg (.fn 247) xs H=bp cfg Jd [.c Qg] (ay xs) H:=aN rfl rfl rfl xs H
theorem QS(xs:List AV)(H:Heap):lim cfg (.fn 255) xs H=bp cfg Fk [.c MI] (ay xs) H:=aN rfl rfl rfl xs H
theorem US(xs:List AV)(H:Heap):lim cfg (.fn 256) xs H=bp cfg MJ [.c Qh] (ay xs) H:=aN rfl rfl rfl xs H
theorem UT(xs:List AV)(H:Heap):lim cfg (.fn 259) xs H=bp cfg Je [.c Qi] (ay xs) H:=aN rfl rfl rfl xs H
theorem UU(xs:List AV)(H:Heap):lim cfg (.fn 260) xs H=bp cfg Jf [.c Qj] (ay xs) H:=aN rfl rfl rfl xs H
theorem UW(xs:List AV)(H:Heap):lim cfg (.fn 261) xs H=bp cfg Jg [.c Qk] (ay xs) H:=aN rfl rfl rfl xs H
theorem UX(xs:List AV)(H:Heap):lim cfg (.fn 262) xs H=bp cfg Fs [.c Ql] (ay xs) H:=aN rfl rfl rfl xs H
theorem UY(xs:List AV)(H:Heap):lim cfg (.fn 263) xs H=bp cfg Jh [.c Qm] (ay xs) H:=aN rfl rfl rfl xs H
theorem UZ(xs:List AV)(H:Heap):lim cfg (.fn 264) xs H=bp cfg Ji [.c Qn] (ay xs) H:=aN rfl rfl rfl xs H
theorem U0(xs:List AV)(H:Heap):lim cfg (.fn 265) xs H=bp cfg MK [.c Qo] (ay xs) H:=aN rfl rfl rfl xs H
theorem U1(xs:List AV)(H:Heap):lim cfg (.fn 266) xs H=bp cfg Jj [.c Qp] (ay xs) H:=aN rfl rfl rfl xs H
theorem U2(xs:List AV)(H:Heap):lim cfg (.fn 267) xs H=bp cfg ML [.c Qq] (ay xs) H:=aN rfl rfl rfl xs H
theorem QT(xs:List AV)(H:Heap):lim cfg (.fn 268) xs H=bp cfg MM [.c Qr] (ay xs) H:=aN rfl rfl rfl xs H
theorem U3(xs:List AV)(H:Heap):lim cfg (.fn 269) xs H=bp cfg Fx [.c MN] (ay xs) H:=aN rfl rfl rfl xs H
theorem QU(xs:List AV)(H:Heap):lim cfg (.fn 272) xs H=bp cfg Ck [.c MO] (ay xs) H:=aN rfl rfl rfl xs H
theorem U4(xs:List AV)(H:Heap):lim cfg (.fn 273) xs H=bp cfg Cl [.c Qs] (ay xs) H:=aN rfl rfl rfl xs H
theorem U5(xs:List AV)(H:Heap):lim cfg (.fn 274) xs H=bp cfg MP [.c Qt] (ay xs) H:=aN rfl rfl rfl xs H
theorem U6(xs:List AV)(H:Heap):lim cfg (.fn 275) xs H=bp cfg MQ [.c Qu] (ay xs) H:=aN rfl rfl rfl xs H
theorem U7(xs:List AV)(H:Heap):lim cfg (.fn 284) xs H=bp cfg Jk [.c MR] (ay xs) H:=aN rfl rfl rfl xs H
theorem U8(xs:List AV)(H:Heap):lim cfg (.fn 285) xs H=bp cfg MS [.c Qv] (ay xs) H:=aN rfl rfl rfl xs H
end Go.Aa.T

