import Derived.Test.YthlhlfiklmmenaaGreatDoorYsanh
set_option linter.unusedVariables false
set_option linter.unusedSimpArgs false
set_option maxRecDepth 100000
namespace Go.Aa.T
open Go.Aa Go.Proofs
theorem xK(x y:List UInt8):Op.bytesLess x y=decide (x<y):=bytesLess_eq x y
theorem jR(x:List UInt8):Op.bytesLess x x=false:=by rw[xK];simp[List.lt_irrefl]
theorem jf{x y z:List UInt8}(h1:Op.bytesLess x y=true)(h2:Op.bytesLess y z=true):Op.bytesLess x z=true:=by
 rw[xK,decide_eq_true_eq]at h1 h2⊢
 exact List.lt_trans h1 h2
theorem vj{x y:List UInt8}(h:(Op.bytesLess x y||x==y)=false):Op.bytesLess y x=true:=by
 simp only[Bool.or_eq_false_iff,beq_eq_false_iff_ne,xK,decide_eq_false_iff_not]at h
 rw[xK,decide_eq_true_eq]
 obtain⟨h1,h2⟩:=h
 by_cases h3:y<x
 ·exact h3
 ·exact absurd (List.le_antisymm (List.not_lt.1 h3) (List.not_lt.1 h1)) h2
theorem JK{x y:List UInt8}(h:Op.bytesLess x y=true):(Op.bytesLess y x||y==x)=false:=by
 rw[Bool.or_eq_false_iff]
 constructor
 ·cases h':Op.bytesLess y x with
  |false=>rfl
  |true=>have:=jf h h';rw[jR]at this;cases this
 ·rw[beq_eq_false_iff_ne]
  rintro rfl
  rw[jR]at h;cases h
abbrev gr(l:List (List UInt8)):Prop:=l.Pairwise fun x y=>Op.bytesLess x y=true
theorem nN:∀{l m:List (List UInt8)},gr l→gr m→(∀x,x∈l↔x∈m)→l=m
 |[],[],_,_,_=>rfl
 |[],y::m,_,_,h=>absurd ((h y).2 (by simp)) (by simp)
 |x::l,[],_,_,h=>absurd ((h x).1 (by simp)) (by simp)
 |x::l,y::m,h1,h2,h=>by
  have a1:∀z,z∈l→Op.bytesLess x z=true:=fun z hz=>List.rel_of_pairwise_cons h1 hz
  have a2:∀z,z∈m→Op.bytesLess y z=true:=fun z hz=>List.rel_of_pairwise_cons h2 hz
  have e:x=y:=by
   rcases List.mem_cons.1 ((h x).1 (by simp))with e|hx
   ·exact e
   ·rcases List.mem_cons.1 ((h y).2 (by simp))with e|hy
    ·exact e.symm
    ·have:=jf (a1 _ hy) (a2 _ hx)
     rw[jR]at this;cases this
  subst e
  congr 1
  refine nN (List.Pairwise.of_cons h1) (List.Pairwise.of_cons h2) fun z=> ?_
  have hz:=h z
  simp only[List.mem_cons]at hz
  constructor
  ·intro h3
   rcases hz.1 (.inr h3)with e|h4
   ·subst e;have:=a1 _ h3;rw[jR]at this;cases this
   ·exact h4
  ·intro h3
   rcases hz.2 (.inr h3)with e|h4
   ·subst e;have:=a2 _ h3;rw[jR]at this;cases this
   ·exact h4
theorem vk(x z:List UInt8):∀{l:List (List UInt8)},z∈nL x l→z∈l
 |[],h=>by simp[nL]at h
 |y::l,h=>by
  unfold nL at h
  split at h
  ·exact List.mem_cons_of_mem _ (vk x z h)
  ·rcases List.mem_cons.1 h with rfl|h
   ·simp
   ·exact List.mem_cons_of_mem _ (vk y z h)
theorem rD(z:List UInt8):∀{l:List (List UInt8)}{x:List UInt8},z∈l→z=x∨z∈nL x l
 |[],x,h=>by simp at h
 |y::l,x,h=>by
  unfold nL
  by_cases e:y=x
  ·rw[if_pos e]
   rcases List.mem_cons.1 h with rfl|h
   ·exact .inl e
   ·exact rD z h
  ·rw[if_neg e]
   rcases List.mem_cons.1 h with rfl|h
   ·exact .inr (by simp)
   ·rcases rD (x:=y) z h with h2|h2
    ·exact .inr (by simp[h2])
    ·exact .inr (by simp[h2])
theorem Nt{z:List UInt8}{l:List (List UInt8)}:z∈uq l↔z∈l:=by
 cases l with
 |nil=>simp[uq]
 |cons x l=>
  simp only[uq,List.mem_cons]
  constructor
  ·rintro(h|h)
   ·exact .inl h
   ·exact .inr (vk x z h)
  ·rintro(h|h)
   ·exact .inl h
   ·exact rD z h
theorem GK{x y:List UInt8}(h:x≤y)(hn:y≠x):Op.bytesLess x y=true:=by
 rw[xK,decide_eq_true_eq]
 by_cases h3:x<y
 ·exact h3
 ·exact absurd (List.le_antisymm (List.not_lt.1 h3) h) hn
theorem rE:∀{l:List (List UInt8)}{x:List UInt8},(x::l).Pairwise (·≤·)→gr (x::nL x l)
 |[],x,_=>by simp[nL,gr]
 |y::l,x,h=>by
  have h1:∀{z},z∈y::l→x≤z:=fun hz=>List.rel_of_pairwise_cons h hz
  have h2:=List.Pairwise.of_cons h
  unfold nL
  by_cases e:y=x
  ·rw[if_pos e]
   refine rE ?_
   refine List.Pairwise.cons (fun z hz=>h1 (List.mem_cons_of_mem _ hz)) (List.Pairwise.of_cons h2)
  ·rw[if_neg e]
   have h3:=rE h2
   refine List.Pairwise.cons (fun z hz=> ?_) h3
   have hxy:=GK (h1 (by simp)) e
   rcases List.mem_cons.1 hz with rfl|hz
   ·exact hxy
   ·exact jf hxy (List.rel_of_pairwise_cons h3 hz)
theorem iG(l:List (List UInt8)):gr (cy l):=by
 unfold cy
 have h:=ko l
 cases hl:ep l with
 |nil=>simp[uq,gr]
 |cons x m=>rw[hl]at h;exact rE h
theorem fS{l:List (List UInt8)}{z:List UInt8}:z∈cy l↔z∈l:=by
 unfold cy
 rw[Nt,(kj l).mem_iff]
theorem Ag{l m:List (List UInt8)}(hm:gr m)(h:∀x,x∈l↔x∈m):cy l=m:=
 nN (iG l) hm fun x=>by rw[fS,h]
def dM:List (List UInt8)→List (List UInt8)→List (List UInt8)
 |[],b=>b
 |x::a,[]=>x::a
 |x::a,y::b=>if Op.bytesLess x y=true then x::dM a (y::b)else if Op.bytesLess y x=true then y::dM (x::a) b else x::dM a b
 termination_by a b=>a.length+b.length
theorem fu(b:List (List UInt8)):dM [] b=b:=by rw[dM]
theorem kC(a:List (List UInt8)):dM a []=a:=by cases a<;>rw[dM]
theorem jS:∀(n:Nat)(a b:List (List UInt8)),a.length+b.length≤n→∀x,x∈dM a b↔x∈a∨x∈b:=by
 intro n
 induction n with
 |zero=>
  intro a b h x
  obtain rfl:a=[]:=List.length_eq_zero_iff.1 (by omega)
  obtain rfl:b=[]:=List.length_eq_zero_iff.1 (by omega)
  simp[fu]
 |succ n ih=>
  intro a b h x
  cases a with
  |nil=>simp[fu]
  |cons p a=>
   cases b with
   |nil=>simp[kC]
   |cons q b=>
    simp only[List.length_cons]at h
    rw[dM]
    by_cases h1:Op.bytesLess p q=true
    ·rw[if_pos h1,List.mem_cons,ih a (q::b) (by simp;omega)]
     simp only[List.mem_cons];constructor<;>(intro h;grind)
    ·rw[if_neg h1]
     by_cases h2:Op.bytesLess q p=true
     ·rw[if_pos h2,List.mem_cons,ih (p::a) b (by simp;omega)]
      simp only[List.mem_cons];constructor<;>(intro h;grind)
     ·have e:p=q:=by
       cases hb:(Op.bytesLess p q||p==q)with
       |false=>exact absurd (vj hb) h2
       |true=>simpa[h1]using hb
      rw[if_neg h2,List.mem_cons,ih a b (by omega)]
      simp only[List.mem_cons,e];constructor<;>(intro h;grind)
theorem Ah:∀(n:Nat)(a b:List (List UInt8)),a.length+b.length≤n→gr a→gr b→gr (dM a b):=by
 intro n
 induction n with
 |zero=>
  intro a b h ha hb
  obtain rfl:a=[]:=List.length_eq_zero_iff.1 (by omega)
  rw[fu];exact hb
 |succ n ih=>
  intro a b h ha hb
  cases a with
  |nil=>rw[fu];exact hb
  |cons p a=>
   cases b with
   |nil=>rw[kC];exact ha
   |cons q b=>
    simp only[List.length_cons]at h
    have a1:∀{z},z∈a→Op.bytesLess p z=true:=fun hz=>List.rel_of_pairwise_cons ha hz
    have b1:∀{z},z∈b→Op.bytesLess q z=true:=fun hz=>List.rel_of_pairwise_cons hb hz
    have a2:=List.Pairwise.of_cons ha
    have b2:=List.Pairwise.of_cons hb
    rw[dM]
    by_cases h1:Op.bytesLess p q=true
    ·rw[if_pos h1]
     refine List.Pairwise.cons (fun z hz=> ?_) (ih a (q::b) (by simp;omega) a2 hb)
     rcases(jS _ a (q::b) (Nat.le_refl _) z).1 hz with hz|hz
     ·exact a1 hz
     ·rcases List.mem_cons.1 hz with rfl|hz
      ·exact h1
      ·exact jf h1 (b1 hz)
    ·rw[if_neg h1]
     by_cases h2:Op.bytesLess q p=true
     ·rw[if_pos h2]
      refine List.Pairwise.cons (fun z hz=> ?_) (ih (p::a) b (by simp;omega) ha b2)
      rcases(jS _ (p::a) b (Nat.le_refl _) z).1 hz with hz|hz
      ·rcases List.mem_cons.1 hz with rfl|hz
       ·exact h2
       ·exact jf h2 (a1 hz)
      ·exact b1 hz
     ·have e:p=q:=by
       cases hb:(Op.bytesLess p q||p==q)with
       |false=>exact absurd (vj hb) h2
       |true=>simpa[h1]using hb
      subst e
      rw[if_neg h2]
      refine List.Pairwise.cons (fun z hz=> ?_) (ih a b (by omega) a2 b2)
      rcases(jS _ a b (Nat.le_refl _) z).1 hz with hz|hz
      ·exact a1 hz
      ·exact b1 hz
theorem xL{a b:List (List UInt8)}(ha:gr a)(hb:gr b):cy (a++b)=dM a b:=
 Ag (Ah _ a b (Nat.le_refl _) ha hb) fun x=>by rw[jS _ a b (Nat.le_refl _),List.mem_append]
abbrev fG(v:List aH):List (List UInt8):=v.map aH.name
def jg(l:List (List UInt8)):AV:=aZ Heap.nil (l.map .str)
def jT(l:List (List UInt8)):Heap:=cu Heap.nil (l.map .str)
theorem rF(a b:List aH)(ha:a.length≤1000)(hb:b.length≤1000):∀(n:Nat)(pa pb:List aH)(i k:Nat)(hn:pa.length+pb.length≤n)(hda:a.drop i=pa)(hdb:b.drop k=pb)(acc:List (List UInt8))(hl:acc.length+pa.length+pb.length≤2000)(T:Env)
 (hT:Has T [(0,.sl .sh (a.map ai)),(1,.sl .sh (b.map ai)),(5,jg acc),(6,.int .i64 i),(7,.int .i64 k)]),
 bA cfg Jj mS T (jT acc) (aJ (jg (acc++dM (fG pa) (fG pb)))):=by
 intro n
 induction n with
 |zero=>
  intro pa pb i k hn hda hdb acc hl T hT
  obtain rfl:pa=[]:=List.length_eq_zero_iff.1 (by omega)
  obtain rfl:pb=[]:=List.length_eq_zero_iff.1 (by omega)
  have h1:=bf hda
  have h2:=bf hdb
  rw[show fG []=[]from rfl,fu,List.append_nil]
  exact gG 60 _ hT (.len (lM .sh ai a)<|.no (dF ((↑i:Int)<(↑a.length:Int)))<|.len (lM .sh ai b)<|.no (dF ((↑k:Int)<(↑b.length:Int)))<|.fin ((.ret (jg acc),jT acc)) rfl)
 |succ n ih=>
  intro pa pb i k hn hda hdb acc hl T hT
  have ap:∀s:List UInt8,bw 1 16 (jT acc) (jg acc) (.sl .full [.str s])=some (jg (acc++[s]),jT (acc++[s])):=fun s=>jd (f:=AV.str) (by simp;omega) (dY fun _=>rfl) rfl rfl
  cases pa with
  |nil=>
   have h1:=bf hda
   cases pb with
   |nil=>
    have h2:=bf hdb
    rw[show fG []=[]from rfl,fu,List.append_nil]
    exact gG 60 _ hT (.len (lM .sh ai a)<|.no (dF ((↑i:Int)<(↑a.length:Int)))<|.len (lM .sh ai b)<|.no (dF ((↑k:Int)<(↑b.length:Int)))<|.fin ((.ret (jg acc),jT acc)) rfl)
   |cons y pb=>
    have h2:=bg hdb
    have h3:=aL hdb
    have cQ:=ih [] pb i (k+1) (by simp at hn⊢;omega) hda h3 (acc++[y.name]) (by simp at hl⊢;omega)
    rw[show fG []=[]from rfl,fu]at cQ⊢
    have e:acc++fG (y::pb)=acc++[y.name]++fG pb:=by simp[fG]
    rw[e]
    have hy:cc 2 (.sl .sh (b.map ai)) (.int .i64 (k:Nat))=some (.ref [.str y.name,.int .i64 y.n]):=bx (f:=ai) hdb rfl
    exact let ag:Heap:=(iw (iw (jT acc) (cx [mV 31 7,mV 32 1,⟨some 33,.len false (.t 32),none,[1]⟩,⟨some 34,.bin BinOp.geq (.t 31) (.t 33),none,[1,2,0]⟩,⟨some 35,.aE (.t 34),none,[0,2,1,3]⟩,{dst:=some 36,op:=.aE (.t 6),guard:=some (35,false),deps:=[3,1,2,0,4]:aK},{dst:=some 37,op:=.aE (.t 0),guard:=some (35,false),deps:=[3,1,2,0,4]:aK},{dst:=some 38,op:=.len false (.t 37),guard:=some (35,false),deps:=[4,0,2,1,3,6]:aK},{dst:=some 39,op:=.bin BinOp.lss (.t 36) (.t 38),guard:=some (35,false),deps:=[6,7,4,0,2,1,3,5]:aK},{dst:=some 40,op:=.aE (.t 39),guard:=some (35,false),deps:=[5,3,1,2,0,4,7,6,8]:aK},{dst:=some 41,op:=.aE (.t 0),guard:=some (40,true),deps:=[8,6,7,4,0,2,1,3,5,9]:aK},{dst:=some 42,op:=.aE (.t 6),guard:=some (40,true),deps:=[8,6,7,4,0,2,1,3,5,9]:aK},{dst:=some 43,op:=.idx 2 (.t 41) (.t 42),guard:=some (40,true),deps:=[11,9,5,3,1,2,0,4,7,6,8,10]:aK},{dst:=some 44,op:=.bn 0 1 (.t 43),guard:=some (40,true),deps:=[10,8,6,7,4,0,2,1,3,5,9,11,12]:aK},{dst:=some 45,op:=.load false 1 (.t 44),guard:=some (40,true),deps:=[12,11,9,5,3,1,2,0,4,7,6,8,10,13]:aK},{dst:=some 46,op:=.aE (.t 1),guard:=some (40,true),deps:=[8,6,7,4,0,2,1,3,5,9]:aK},{dst:=some 47,op:=.aE (.t 7),guard:=some (40,true),deps:=[8,6,7,4,0,2,1,3,5,9]:aK},{dst:=some 48,op:=.idx 2 (.t 46) (.t 47),guard:=some (40,true),deps:=[16,9,5,3,1,2,0,4,7,6,8,15]:aK},{dst:=some 49,op:=.bn 0 1 (.t 48),guard:=some (40,true),deps:=[15,8,6,7,4,0,2,1,3,5,9,16,17]:aK},{dst:=some 50,op:=.load false 1 (.t 49),guard:=some (40,true),deps:=[17,16,9,5,3,1,2,0,4,7,6,8,15,18]:aK},{dst:=some 51,op:=.bin BinOp.lss (.t 45) (.t 50),guard:=some (40,true),deps:=[18,15,16,17,19,13,10,8,6,7,4,0,2,1,3,5,9,11,12,14]:aK},{dst:=some 52,op:=.pick (.t 40) (.t 51) (.c (.bool false)),guard:=some (35,false),deps:=[14,12,11,10,13,19,17,16,15,18,20,8,6,7,4,0,2,1,3,5,9]:aK},⟨some 53,.pick (.t 35) (.c (.bool true)) (.t 52),none,[9,5,7,6,8,20,18,15,16,17,19,13,10,11,12,14,21,3,1,2,0,4]⟩,⟨some 30,.aE (.t 53),none,[4,0,2,1,3,21,14,12,11,10,13,19,17,16,15,18,20,8,6,7,5,9,22]⟩])) (cx [mV 65 6,mV 66 0,⟨some 67,.len false (.t 66),none,[1]⟩,⟨some 68,.bin BinOp.geq (.t 65) (.t 67),none,[1,2,0]⟩,⟨some 69,.aE (.t 68),none,[0,2,1,3]⟩,{dst:=some 70,op:=.aE (.t 1),guard:=some (69,false),deps:=[3,1,2,0,4]:aK},{dst:=some 71,op:=.aE (.t 7),guard:=some (69,false),deps:=[3,1,2,0,4]:aK},{dst:=some 72,op:=.idx 2 (.t 70) (.t 71),guard:=some (69,false),deps:=[6,4,0,2,1,3,5]:aK},{dst:=some 73,op:=.bn 0 1 (.t 72),guard:=some (69,false),deps:=[5,3,1,2,0,4,6,7]:aK},{dst:=some 74,op:=.load false 1 (.t 73),guard:=some (69,false),deps:=[7,6,4,0,2,1,3,5,8]:aK},{dst:=some 75,op:=.aE (.t 0),guard:=some (69,false),deps:=[3,1,2,0,4]:aK},{dst:=some 76,op:=.aE (.t 6),guard:=some (69,false),deps:=[3,1,2,0,4]:aK},{dst:=some 77,op:=.idx 2 (.t 75) (.t 76),guard:=some (69,false),deps:=[11,4,0,2,1,3,10]:aK},{dst:=some 78,op:=.bn 0 1 (.t 77),guard:=some (69,false),deps:=[10,3,1,2,0,4,11,12]:aK},{dst:=some 79,op:=.load false 1 (.t 78),guard:=some (69,false),deps:=[12,11,4,0,2,1,3,10,13]:aK},{dst:=some 80,op:=.bin BinOp.lss (.t 74) (.t 79),guard:=some (69,false),deps:=[13,10,11,12,14,8,5,3,1,2,0,4,6,7,9]:aK},⟨some 81,.pick (.t 69) (.c (.bool true)) (.t 80),none,[9,7,6,5,8,14,12,11,10,13,15,3,1,2,0,4]⟩,⟨some 64,.aE (.t 81),none,[4,0,2,1,3,15,13,10,11,12,14,8,5,6,7,9,16]⟩]));gG 90 _ hT (.len (lM .sh ai a)<|.no (dF ((↑i:Int)<(↑a.length:Int)))<|.len (lM .sh ai b)<|.yes (dT ((↑k:Int)<(↑b.length:Int)))<|.len (lM .sh ai b)<|.no (dF ((↑b.length:Int)≤(↑k:Int)))<|.len (lM .sh ai a)<|.no (dF ((↑i:Int)<(↑a.length:Int)))<|.ff<|.len (lM .sh ai a)<|.yes (dT ((↑a.length:Int)≤(↑i:Int)))<|.tt<|.idx hy<|.load (rfl:ak false 1 ag (.ref [.str y.name])=some (.str y.name))<|.append (show bw 1 16 ag (jg acc) (.sl .full [.str y.name])=some ((jg (acc++[y.name]),jT (acc++[y.name])))from ap _)<|.bin (iI k)<|.aT mS [(0,.sl .sh (a.map ai)),(1,.sl .sh (b.map ai)),(5,jg (acc++[y.name])),(6,.int .i64 ↑i),(7,.int .i64 (↑(k+1):Int))] (jT (acc++[y.name])) (fun T hT=>(cQ T hT)))
  |cons x pa=>
   have h1:=bg hda
   have Vc:=aL hda
   have hx:cc 2 (.sl .sh (a.map ai)) (.int .i64 (i:Nat))=some (.ref [.str x.name,.int .i64 x.n]):=bx (f:=ai) hda rfl
   cases pb with
   |nil=>
    have h2:=bf hdb
    have cQ:=ih pa [] (i+1) k (by simp at hn⊢;omega) Vc hdb (acc++[x.name]) (by simp at hl⊢;omega)
    rw[show fG []=[]from rfl,kC]at cQ⊢
    have e:acc++fG (x::pa)=acc++[x.name]++fG pa:=by simp[fG]
    rw[e]
    exact let ag:Heap:=(iw (jT acc) (cx [mV 31 7,mV 32 1,⟨some 33,.len false (.t 32),none,[1]⟩,⟨some 34,.bin BinOp.geq (.t 31) (.t 33),none,[1,2,0]⟩,⟨some 35,.aE (.t 34),none,[0,2,1,3]⟩,{dst:=some 36,op:=.aE (.t 6),guard:=some (35,false),deps:=[3,1,2,0,4]:aK},{dst:=some 37,op:=.aE (.t 0),guard:=some (35,false),deps:=[3,1,2,0,4]:aK},{dst:=some 38,op:=.len false (.t 37),guard:=some (35,false),deps:=[4,0,2,1,3,6]:aK},{dst:=some 39,op:=.bin BinOp.lss (.t 36) (.t 38),guard:=some (35,false),deps:=[6,7,4,0,2,1,3,5]:aK},{dst:=some 40,op:=.aE (.t 39),guard:=some (35,false),deps:=[5,3,1,2,0,4,7,6,8]:aK},{dst:=some 41,op:=.aE (.t 0),guard:=some (40,true),deps:=[8,6,7,4,0,2,1,3,5,9]:aK},{dst:=some 42,op:=.aE (.t 6),guard:=some (40,true),deps:=[8,6,7,4,0,2,1,3,5,9]:aK},{dst:=some 43,op:=.idx 2 (.t 41) (.t 42),guard:=some (40,true),deps:=[11,9,5,3,1,2,0,4,7,6,8,10]:aK},{dst:=some 44,op:=.bn 0 1 (.t 43),guard:=some (40,true),deps:=[10,8,6,7,4,0,2,1,3,5,9,11,12]:aK},{dst:=some 45,op:=.load false 1 (.t 44),guard:=some (40,true),deps:=[12,11,9,5,3,1,2,0,4,7,6,8,10,13]:aK},{dst:=some 46,op:=.aE (.t 1),guard:=some (40,true),deps:=[8,6,7,4,0,2,1,3,5,9]:aK},{dst:=some 47,op:=.aE (.t 7),guard:=some (40,true),deps:=[8,6,7,4,0,2,1,3,5,9]:aK},{dst:=some 48,op:=.idx 2 (.t 46) (.t 47),guard:=some (40,true),deps:=[16,9,5,3,1,2,0,4,7,6,8,15]:aK},{dst:=some 49,op:=.bn 0 1 (.t 48),guard:=some (40,true),deps:=[15,8,6,7,4,0,2,1,3,5,9,16,17]:aK},{dst:=some 50,op:=.load false 1 (.t 49),guard:=some (40,true),deps:=[17,16,9,5,3,1,2,0,4,7,6,8,15,18]:aK},{dst:=some 51,op:=.bin BinOp.lss (.t 45) (.t 50),guard:=some (40,true),deps:=[18,15,16,17,19,13,10,8,6,7,4,0,2,1,3,5,9,11,12,14]:aK},{dst:=some 52,op:=.pick (.t 40) (.t 51) (.c (.bool false)),guard:=some (35,false),deps:=[14,12,11,10,13,19,17,16,15,18,20,8,6,7,4,0,2,1,3,5,9]:aK},⟨some 53,.pick (.t 35) (.c (.bool true)) (.t 52),none,[9,5,7,6,8,20,18,15,16,17,19,13,10,11,12,14,21,3,1,2,0,4]⟩,⟨some 30,.aE (.t 53),none,[4,0,2,1,3,21,14,12,11,10,13,19,17,16,15,18,20,8,6,7,5,9,22]⟩]));gG 90 _ hT (.len (lM .sh ai a)<|.yes (dT ((↑i:Int)<(↑a.length:Int)))<|.tt<|.len (lM .sh ai b)<|.yes (dT ((↑b.length:Int)≤(↑k:Int)))<|.tt<|.idx hx<|.load (rfl:ak false 1 ag (.ref [.str x.name])=some (.str x.name))<|.append (show bw 1 16 ag (jg acc) (.sl .full [.str x.name])=some ((jg (acc++[x.name]),jT (acc++[x.name])))from ap _)<|.bin (iI i)<|.aT mS [(0,.sl .sh (a.map ai)),(1,.sl .sh (b.map ai)),(5,jg (acc++[x.name])),(6,.int .i64 (↑(i+1))),(7,.int .i64 ↑k)] (jT (acc++[x.name])) (fun T hT=>(cQ T hT)))
   |cons y pb=>
    have h2:=bg hdb
    have WQ:=aL hdb
    have hy:cc 2 (.sl .sh (b.map ai)) (.int .i64 (k:Nat))=some (.ref [.str y.name,.int .i64 y.n]):=bx (f:=ai) hdb rfl
    have e0:fG (x::pa)=x.name::fG pa:=rfl
    have e1:fG (y::pb)=y.name::fG pb:=rfl
    rw[e0,e1,dM]
    by_cases q1:Op.bytesLess x.name y.name=true
    ·have cQ:=ih pa (y::pb) (i+1) k (by simp at hn⊢;omega) Vc hdb (acc++[x.name]) (by simp at hl⊢;omega)
     rw[if_pos q1]
     rw[e1,List.append_assoc,List.singleton_append]at cQ
     exact let ag:Heap:=(iw (jT acc) (cx [mV 31 7,mV 32 1,⟨some 33,.len false (.t 32),none,[1]⟩,⟨some 34,.bin BinOp.geq (.t 31) (.t 33),none,[1,2,0]⟩,⟨some 35,.aE (.t 34),none,[0,2,1,3]⟩,{dst:=some 36,op:=.aE (.t 6),guard:=some (35,false),deps:=[3,1,2,0,4]:aK},{dst:=some 37,op:=.aE (.t 0),guard:=some (35,false),deps:=[3,1,2,0,4]:aK},{dst:=some 38,op:=.len false (.t 37),guard:=some (35,false),deps:=[4,0,2,1,3,6]:aK},{dst:=some 39,op:=.bin BinOp.lss (.t 36) (.t 38),guard:=some (35,false),deps:=[6,7,4,0,2,1,3,5]:aK},{dst:=some 40,op:=.aE (.t 39),guard:=some (35,false),deps:=[5,3,1,2,0,4,7,6,8]:aK},{dst:=some 41,op:=.aE (.t 0),guard:=some (40,true),deps:=[8,6,7,4,0,2,1,3,5,9]:aK},{dst:=some 42,op:=.aE (.t 6),guard:=some (40,true),deps:=[8,6,7,4,0,2,1,3,5,9]:aK},{dst:=some 43,op:=.idx 2 (.t 41) (.t 42),guard:=some (40,true),deps:=[11,9,5,3,1,2,0,4,7,6,8,10]:aK},{dst:=some 44,op:=.bn 0 1 (.t 43),guard:=some (40,true),deps:=[10,8,6,7,4,0,2,1,3,5,9,11,12]:aK},{dst:=some 45,op:=.load false 1 (.t 44),guard:=some (40,true),deps:=[12,11,9,5,3,1,2,0,4,7,6,8,10,13]:aK},{dst:=some 46,op:=.aE (.t 1),guard:=some (40,true),deps:=[8,6,7,4,0,2,1,3,5,9]:aK},{dst:=some 47,op:=.aE (.t 7),guard:=some (40,true),deps:=[8,6,7,4,0,2,1,3,5,9]:aK},{dst:=some 48,op:=.idx 2 (.t 46) (.t 47),guard:=some (40,true),deps:=[16,9,5,3,1,2,0,4,7,6,8,15]:aK},{dst:=some 49,op:=.bn 0 1 (.t 48),guard:=some (40,true),deps:=[15,8,6,7,4,0,2,1,3,5,9,16,17]:aK},{dst:=some 50,op:=.load false 1 (.t 49),guard:=some (40,true),deps:=[17,16,9,5,3,1,2,0,4,7,6,8,15,18]:aK},{dst:=some 51,op:=.bin BinOp.lss (.t 45) (.t 50),guard:=some (40,true),deps:=[18,15,16,17,19,13,10,8,6,7,4,0,2,1,3,5,9,11,12,14]:aK},{dst:=some 52,op:=.pick (.t 40) (.t 51) (.c (.bool false)),guard:=some (35,false),deps:=[14,12,11,10,13,19,17,16,15,18,20,8,6,7,4,0,2,1,3,5,9]:aK},⟨some 53,.pick (.t 35) (.c (.bool true)) (.t 52),none,[9,5,7,6,8,20,18,15,16,17,19,13,10,11,12,14,21,3,1,2,0,4]⟩,⟨some 30,.aE (.t 53),none,[4,0,2,1,3,21,14,12,11,10,13,19,17,16,15,18,20,8,6,7,5,9,22]⟩]));gG 90 _ hT (.len (lM .sh ai a)<|.yes (dT ((↑i:Int)<(↑a.length:Int)))<|.tt<|.len (lM .sh ai b)<|.no (dF ((↑b.length:Int)≤(↑k:Int)))<|.len (lM .sh ai a)<|.yes (dT ((↑i:Int)<(↑a.length:Int)))<|.idx hx<|.load (rfl:ak false 1 ag (.ref [.str x.name])=some (.str x.name))<|.idx hy<|.load (rfl:ak false 1 ag (.ref [.str y.name])=some (.str y.name))<|.yes (show(Op.bytesLess x.name y.name)=true from(by omega))<|.idx hx<|.load (rfl:ak false 1 ag (.ref [.str x.name])=some (.str x.name))<|.append (show bw 1 16 ag (jg acc) (.sl .full [.str x.name])=some ((jg (acc++[x.name]),jT (acc++[x.name])))from ap _)<|.bin (iI i)<|.aT mS [(0,.sl .sh (a.map ai)),(1,.sl .sh (b.map ai)),(5,jg (acc++[x.name])),(6,.int .i64 (↑(i+1))),(7,.int .i64 ↑k)] (jT (acc++[x.name])) (fun T hT=>(cQ T hT)))
    ·rw[if_neg q1]
     by_cases q2:Op.bytesLess y.name x.name=true
     ·have cQ:=ih (x::pa) pb i (k+1) (by simp at hn⊢;omega) hda WQ (acc++[y.name]) (by simp at hl⊢;omega)
      rw[if_pos q2]
      rw[e0,List.append_assoc,List.singleton_append]at cQ
      exact let ag:Heap:=(iw (jT acc) (cx [mV 31 7,mV 32 1,⟨some 33,.len false (.t 32),none,[1]⟩,⟨some 34,.bin BinOp.geq (.t 31) (.t 33),none,[1,2,0]⟩,⟨some 35,.aE (.t 34),none,[0,2,1,3]⟩,{dst:=some 36,op:=.aE (.t 6),guard:=some (35,false),deps:=[3,1,2,0,4]:aK},{dst:=some 37,op:=.aE (.t 0),guard:=some (35,false),deps:=[3,1,2,0,4]:aK},{dst:=some 38,op:=.len false (.t 37),guard:=some (35,false),deps:=[4,0,2,1,3,6]:aK},{dst:=some 39,op:=.bin BinOp.lss (.t 36) (.t 38),guard:=some (35,false),deps:=[6,7,4,0,2,1,3,5]:aK},{dst:=some 40,op:=.aE (.t 39),guard:=some (35,false),deps:=[5,3,1,2,0,4,7,6,8]:aK},{dst:=some 41,op:=.aE (.t 0),guard:=some (40,true),deps:=[8,6,7,4,0,2,1,3,5,9]:aK},{dst:=some 42,op:=.aE (.t 6),guard:=some (40,true),deps:=[8,6,7,4,0,2,1,3,5,9]:aK},{dst:=some 43,op:=.idx 2 (.t 41) (.t 42),guard:=some (40,true),deps:=[11,9,5,3,1,2,0,4,7,6,8,10]:aK},{dst:=some 44,op:=.bn 0 1 (.t 43),guard:=some (40,true),deps:=[10,8,6,7,4,0,2,1,3,5,9,11,12]:aK},{dst:=some 45,op:=.load false 1 (.t 44),guard:=some (40,true),deps:=[12,11,9,5,3,1,2,0,4,7,6,8,10,13]:aK},{dst:=some 46,op:=.aE (.t 1),guard:=some (40,true),deps:=[8,6,7,4,0,2,1,3,5,9]:aK},{dst:=some 47,op:=.aE (.t 7),guard:=some (40,true),deps:=[8,6,7,4,0,2,1,3,5,9]:aK},{dst:=some 48,op:=.idx 2 (.t 46) (.t 47),guard:=some (40,true),deps:=[16,9,5,3,1,2,0,4,7,6,8,15]:aK},{dst:=some 49,op:=.bn 0 1 (.t 48),guard:=some (40,true),deps:=[15,8,6,7,4,0,2,1,3,5,9,16,17]:aK},{dst:=some 50,op:=.load false 1 (.t 49),guard:=some (40,true),deps:=[17,16,9,5,3,1,2,0,4,7,6,8,15,18]:aK},{dst:=some 51,op:=.bin BinOp.lss (.t 45) (.t 50),guard:=some (40,true),deps:=[18,15,16,17,19,13,10,8,6,7,4,0,2,1,3,5,9,11,12,14]:aK},{dst:=some 52,op:=.pick (.t 40) (.t 51) (.c (.bool false)),guard:=some (35,false),deps:=[14,12,11,10,13,19,17,16,15,18,20,8,6,7,4,0,2,1,3,5,9]:aK},⟨some 53,.pick (.t 35) (.c (.bool true)) (.t 52),none,[9,5,7,6,8,20,18,15,16,17,19,13,10,11,12,14,21,3,1,2,0,4]⟩,⟨some 30,.aE (.t 53),none,[4,0,2,1,3,21,14,12,11,10,13,19,17,16,15,18,20,8,6,7,5,9,22]⟩]));let ax:Heap:=(iw ag (cx [mV 65 6,mV 66 0,⟨some 67,.len false (.t 66),none,[1]⟩,⟨some 68,.bin BinOp.geq (.t 65) (.t 67),none,[1,2,0]⟩,⟨some 69,.aE (.t 68),none,[0,2,1,3]⟩,{dst:=some 70,op:=.aE (.t 1),guard:=some (69,false),deps:=[3,1,2,0,4]:aK},{dst:=some 71,op:=.aE (.t 7),guard:=some (69,false),deps:=[3,1,2,0,4]:aK},{dst:=some 72,op:=.idx 2 (.t 70) (.t 71),guard:=some (69,false),deps:=[6,4,0,2,1,3,5]:aK},{dst:=some 73,op:=.bn 0 1 (.t 72),guard:=some (69,false),deps:=[5,3,1,2,0,4,6,7]:aK},{dst:=some 74,op:=.load false 1 (.t 73),guard:=some (69,false),deps:=[7,6,4,0,2,1,3,5,8]:aK},{dst:=some 75,op:=.aE (.t 0),guard:=some (69,false),deps:=[3,1,2,0,4]:aK},{dst:=some 76,op:=.aE (.t 6),guard:=some (69,false),deps:=[3,1,2,0,4]:aK},{dst:=some 77,op:=.idx 2 (.t 75) (.t 76),guard:=some (69,false),deps:=[11,4,0,2,1,3,10]:aK},{dst:=some 78,op:=.bn 0 1 (.t 77),guard:=some (69,false),deps:=[10,3,1,2,0,4,11,12]:aK},{dst:=some 79,op:=.load false 1 (.t 78),guard:=some (69,false),deps:=[12,11,4,0,2,1,3,10,13]:aK},{dst:=some 80,op:=.bin BinOp.lss (.t 74) (.t 79),guard:=some (69,false),deps:=[13,10,11,12,14,8,5,3,1,2,0,4,6,7,9]:aK},⟨some 81,.pick (.t 69) (.c (.bool true)) (.t 80),none,[9,7,6,5,8,14,12,11,10,13,15,3,1,2,0,4]⟩,⟨some 64,.aE (.t 81),none,[4,0,2,1,3,15,13,10,11,12,14,8,5,6,7,9,16]⟩]));gG 120 _ hT (.len (lM .sh ai a)<|.yes (dT ((↑i:Int)<(↑a.length:Int)))<|.tt<|.len (lM .sh ai b)<|.no (dF ((↑b.length:Int)≤(↑k:Int)))<|.len (lM .sh ai a)<|.yes (dT ((↑i:Int)<(↑a.length:Int)))<|.idx hx<|.load (rfl:ak false 1 ag (.ref [.str x.name])=some (.str x.name))<|.idx hy<|.load (rfl:ak false 1 ag (.ref [.str y.name])=some (.str y.name))<|.no (show(Op.bytesLess x.name y.name)=false from Bool.eq_false_iff.2 (by omega))<|.len (lM .sh ai a)<|.no (dF ((↑a.length:Int)≤(↑i:Int)))<|.idx hy<|.load (rfl:ak false 1 ax (.ref [.str y.name])=some (.str y.name))<|.idx hx<|.load (rfl:ak false 1 ax (.ref [.str x.name])=some (.str x.name))<|.yes (show(Op.bytesLess y.name x.name)=true from(by omega))<|.idx hy<|.load (rfl:ak false 1 ax (.ref [.str y.name])=some (.str y.name))<|.append (show bw 1 16 ax (jg acc) (.sl .full [.str y.name])=some ((jg (acc++[y.name]),jT (acc++[y.name])))from ap _)<|.bin (iI k)<|.aT mS [(0,.sl .sh (a.map ai)),(1,.sl .sh (b.map ai)),(5,jg (acc++[y.name])),(6,.int .i64 ↑i),(7,.int .i64 (↑(k+1):Int))] (jT (acc++[y.name])) (fun T hT=>(cQ T hT)))
     ·have cQ:=ih pa pb (i+1) (k+1) (by simp at hn⊢;omega) Vc WQ (acc++[x.name]) (by simp at hl⊢;omega)
      rw[if_neg q2]
      rw[List.append_assoc,List.singleton_append]at cQ
      exact let ag:Heap:=(iw (jT acc) (cx [mV 31 7,mV 32 1,⟨some 33,.len false (.t 32),none,[1]⟩,⟨some 34,.bin BinOp.geq (.t 31) (.t 33),none,[1,2,0]⟩,⟨some 35,.aE (.t 34),none,[0,2,1,3]⟩,{dst:=some 36,op:=.aE (.t 6),guard:=some (35,false),deps:=[3,1,2,0,4]:aK},{dst:=some 37,op:=.aE (.t 0),guard:=some (35,false),deps:=[3,1,2,0,4]:aK},{dst:=some 38,op:=.len false (.t 37),guard:=some (35,false),deps:=[4,0,2,1,3,6]:aK},{dst:=some 39,op:=.bin BinOp.lss (.t 36) (.t 38),guard:=some (35,false),deps:=[6,7,4,0,2,1,3,5]:aK},{dst:=some 40,op:=.aE (.t 39),guard:=some (35,false),deps:=[5,3,1,2,0,4,7,6,8]:aK},{dst:=some 41,op:=.aE (.t 0),guard:=some (40,true),deps:=[8,6,7,4,0,2,1,3,5,9]:aK},{dst:=some 42,op:=.aE (.t 6),guard:=some (40,true),deps:=[8,6,7,4,0,2,1,3,5,9]:aK},{dst:=some 43,op:=.idx 2 (.t 41) (.t 42),guard:=some (40,true),deps:=[11,9,5,3,1,2,0,4,7,6,8,10]:aK},{dst:=some 44,op:=.bn 0 1 (.t 43),guard:=some (40,true),deps:=[10,8,6,7,4,0,2,1,3,5,9,11,12]:aK},{dst:=some 45,op:=.load false 1 (.t 44),guard:=some (40,true),deps:=[12,11,9,5,3,1,2,0,4,7,6,8,10,13]:aK},{dst:=some 46,op:=.aE (.t 1),guard:=some (40,true),deps:=[8,6,7,4,0,2,1,3,5,9]:aK},{dst:=some 47,op:=.aE (.t 7),guard:=some (40,true),deps:=[8,6,7,4,0,2,1,3,5,9]:aK},{dst:=some 48,op:=.idx 2 (.t 46) (.t 47),guard:=some (40,true),deps:=[16,9,5,3,1,2,0,4,7,6,8,15]:aK},{dst:=some 49,op:=.bn 0 1 (.t 48),guard:=some (40,true),deps:=[15,8,6,7,4,0,2,1,3,5,9,16,17]:aK},{dst:=some 50,op:=.load false 1 (.t 49),guard:=some (40,true),deps:=[17,16,9,5,3,1,2,0,4,7,6,8,15,18]:aK},{dst:=some 51,op:=.bin BinOp.lss (.t 45) (.t 50),guard:=some (40,true),deps:=[18,15,16,17,19,13,10,8,6,7,4,0,2,1,3,5,9,11,12,14]:aK},{dst:=some 52,op:=.pick (.t 40) (.t 51) (.c (.bool false)),guard:=some (35,false),deps:=[14,12,11,10,13,19,17,16,15,18,20,8,6,7,4,0,2,1,3,5,9]:aK},⟨some 53,.pick (.t 35) (.c (.bool true)) (.t 52),none,[9,5,7,6,8,20,18,15,16,17,19,13,10,11,12,14,21,3,1,2,0,4]⟩,⟨some 30,.aE (.t 53),none,[4,0,2,1,3,21,14,12,11,10,13,19,17,16,15,18,20,8,6,7,5,9,22]⟩]));let ax:Heap:=(iw ag (cx [mV 65 6,mV 66 0,⟨some 67,.len false (.t 66),none,[1]⟩,⟨some 68,.bin BinOp.geq (.t 65) (.t 67),none,[1,2,0]⟩,⟨some 69,.aE (.t 68),none,[0,2,1,3]⟩,{dst:=some 70,op:=.aE (.t 1),guard:=some (69,false),deps:=[3,1,2,0,4]:aK},{dst:=some 71,op:=.aE (.t 7),guard:=some (69,false),deps:=[3,1,2,0,4]:aK},{dst:=some 72,op:=.idx 2 (.t 70) (.t 71),guard:=some (69,false),deps:=[6,4,0,2,1,3,5]:aK},{dst:=some 73,op:=.bn 0 1 (.t 72),guard:=some (69,false),deps:=[5,3,1,2,0,4,6,7]:aK},{dst:=some 74,op:=.load false 1 (.t 73),guard:=some (69,false),deps:=[7,6,4,0,2,1,3,5,8]:aK},{dst:=some 75,op:=.aE (.t 0),guard:=some (69,false),deps:=[3,1,2,0,4]:aK},{dst:=some 76,op:=.aE (.t 6),guard:=some (69,false),deps:=[3,1,2,0,4]:aK},{dst:=some 77,op:=.idx 2 (.t 75) (.t 76),guard:=some (69,false),deps:=[11,4,0,2,1,3,10]:aK},{dst:=some 78,op:=.bn 0 1 (.t 77),guard:=some (69,false),deps:=[10,3,1,2,0,4,11,12]:aK},{dst:=some 79,op:=.load false 1 (.t 78),guard:=some (69,false),deps:=[12,11,4,0,2,1,3,10,13]:aK},{dst:=some 80,op:=.bin BinOp.lss (.t 74) (.t 79),guard:=some (69,false),deps:=[13,10,11,12,14,8,5,3,1,2,0,4,6,7,9]:aK},⟨some 81,.pick (.t 69) (.c (.bool true)) (.t 80),none,[9,7,6,5,8,14,12,11,10,13,15,3,1,2,0,4]⟩,⟨some 64,.aE (.t 81),none,[4,0,2,1,3,15,13,10,11,12,14,8,5,6,7,9,16]⟩]));gG 120 _ hT (.len (lM .sh ai a)<|.yes (dT ((↑i:Int)<(↑a.length:Int)))<|.tt<|.len (lM .sh ai b)<|.no (dF ((↑b.length:Int)≤(↑k:Int)))<|.len (lM .sh ai a)<|.yes (dT ((↑i:Int)<(↑a.length:Int)))<|.idx hx<|.load (rfl:ak false 1 ag (.ref [.str x.name])=some (.str x.name))<|.idx hy<|.load (rfl:ak false 1 ag (.ref [.str y.name])=some (.str y.name))<|.no (show(Op.bytesLess x.name y.name)=false from Bool.eq_false_iff.2 (by omega))<|.len (lM .sh ai a)<|.no (dF ((↑a.length:Int)≤(↑i:Int)))<|.idx hy<|.load (rfl:ak false 1 ax (.ref [.str y.name])=some (.str y.name))<|.idx hx<|.load (rfl:ak false 1 ax (.ref [.str x.name])=some (.str x.name))<|.no (show(Op.bytesLess y.name x.name)=false from Bool.eq_false_iff.2 (by omega))<|.idx hx<|.load (rfl:ak false 1 ax (.ref [.str x.name])=some (.str x.name))<|.append (show bw 1 16 ax (jg acc) (.sl .full [.str x.name])=some ((jg (acc++[x.name]),jT (acc++[x.name])))from ap _)<|.bin (iI i)<|.bin (iI k)<|.aT mS [(0,.sl .sh (a.map ai)),(1,.sl .sh (b.map ai)),(5,jg (acc++[x.name])),(6,.int .i64 (↑(i+1))),(7,.int .i64 (↑(k+1):Int))] (jT (acc++[x.name])) (fun T hT=>(cQ T hT)))
theorem CX(a b:List aH)(ha:a.length≤1000)(hb:b.length≤1000):aq cfg 266 [.sl .sh (a.map ai),.sl .sh (b.map ai)] (jg (dM (fG a) (fG b))):=by
 refine aq.run (U1 _ _) ?_
 have h:=rF a b ha hb (a.length+b.length) a b 0 0 (Nat.le_refl _) rfl rfl [] (by simp;omega)
 rw[List.nil_append]at h
 exact gG 60 [] trivial (.aT mS [(0,.sl .sh (a.map ai)),(1,.sl .sh (b.map ai)),(5,.sl .full []),(6,.int .i64 0),(7,.int .i64 0)] ({boxes:=[],toks:=[],loops:=[]:Heap}) (fun T hT=>(h T hT)))
end Go.Aa.T
namespace Go.Aa.T
open Go.Aa Go.Proofs
def iA(e:Int):AV:=.iface 211 (.agg [.int .i64 e])
theorem pT:aq cfg 68 [.int .i64 0] (.tuple []):=by
 refine aq.run (WJ _ _) ?_
 exact gG 60 [] trivial (.ff<|.fin ((.ret (.tuple []),{boxes:=[],toks:=[],loops:=[]:Heap})) rfl)
theorem gj{e:Int}(h:¬e=0):kf cfg 68 [.int .i64 e] (iA e):=by
 refine kf.run (WJ _ _) ?_
 exact gG 60 [] trivial (.op (.bin .neq (.c (.int .i64 e)) (.c (.int .i64 0))) (.bool true) (fq (fun _=>TD (k:=.i64) h) fun _ _ _=>rfl)<|.tt<|.Na 211 (.agg [.int .i64 e]) Heap.nil rfl)
def dS{X:Type}:List X→SK
 |[]=>.full
 |_::_=>.own 0
instance{X:Type}(l:List X)(xs:List AV):mO (.sl (dS l) xs) (.sl .sh xs):=⟨by cases l<;>exact⟨rfl,rfl⟩⟩
section
variable{X:Type}(enc:X→AV)
def bY(acc:List X):List Nat:=(cu Heap.nil (acc.map enc)).toks
theorem jI:bY enc []=[]:=rfl
theorem vn(x:X)(l:List X):bY enc (x::l)=[l.length+1]:=by simp[bY,cu,Heap.nil]
def cB(l:List X):AV:=.sl (dS l) (l.map enc)
instance(l:List X):mO (cB enc l) (.sl .sh (l.map enc)):=⟨by cases l<;>exact⟨rfl,rfl⟩⟩
theorem Bq(l:List X):cB enc l=aZ Heap.nil (l.map enc):=by cases l<;>rfl
theorem gp{x:X}{es bytes:Nat}{bs:List (List AV)}{ls:List jk}{ys:List X}(h:((ys.map enc).length+1)*bytes≤140737488355328)(hl:cE es (ys.map enc)=true)(hv:cF es (enc x)=true)(hd:dH [enc x]=true):
 bw es bytes ⟨bs,bY enc ys,ls⟩ (cB enc ys) (.sl .full [enc x])=some (cB enc (ys++[x]),⟨bs,bY enc (ys++[x]),ls⟩):=by
 rw[Bq,Bq]
 have hh:=jd (f:=enc) (x:=x) (H:=Heap.nil) h hl hv hd
 cases ys with
 |nil=>
  simp only[aZ,cu,List.map_nil,List.nil_append,List.map_cons,bY,Heap.nil]at hh⊢
  simp only[bw]at hh⊢
  split at hh
  ·rename_i hc;rw[if_pos hc];rfl
  ·cases hh
 |cons y ys=>
  simp only[aZ,cu,List.cons_append,List.map_cons,bY,Heap.nil]at hh⊢
  simp only[bw]at hh⊢
  split at hh
  ·rename_i hc
   rw[if_pos hc]
   split at hh
   ·rename_i qy
    rw[if_pos qy]
    simp only[Option.some.injEq,Prod.mk.injEq,Heap.mk.injEq,true_and,and_true]at hh⊢
    exact hh
   ·cases hh
  ·cases hh
end
end Go.Aa.T
namespace Go.Aa.T
open Go.Aa Go.Proofs
abbrev DR:=List UInt8→Int×Int
def fM(g:DR):List (List UInt8)→List aH→List aH×Int
 |[],acc=>(acc,0)
 |s::r,acc=>if(g s).2=0 then fM g r (if 0<(g s).1 then acc++[⟨s,(g s).1⟩]else acc)else([],(g s).2)
def iH(p:List aH×Int):List aH×Int:=if p.2=0 then(if 8<p.1.length then([],4)else(p.1,0))else([],p.2)
def gX(g:DR)(vs:List (List aH)):List aH×Int:=
 if bq (vs.map gW)=0 then iH (fM g (cy (allNames vs)) [])else([],bq (vs.map gW))
theorem dc{v:AV}{H:Heap}:de H.boxes.length H.toks.length v H=H:=by
 unfold de
 have e1:∀(b:Bool),(if b=true then H.boxes.take H.boxes.length else H.boxes)=H.boxes:=fun b=>by
  split
  ·exact List.take_of_length_le (Nat.le_refl _)
  ·rfl
 have e2:∀(b:Bool),(if b=true then H.toks.take H.toks.length else H.toks)=H.toks:=fun b=>by
  split
  ·exact List.take_of_length_le (Nat.le_refl _)
  ·rfl
 simp only[e1,e2]
theorem Ai{v:AV}{bs:List (List AV)}{tk:List Nat}{nb nt:Nat}(h:bs.length=nb)(h2:bs.all (·.all (rZ bs.length nt))=false):de nb nt v ⟨bs,tk,[]⟩=⟨bs,tk,[]⟩:=by
 unfold de
 have e1:∀(b:Bool),(if b=true then bs.take nb else bs)=bs:=fun b=>by
  split
  ·exact List.take_of_length_le (by omega)
  ·rfl
 simp only[e1,h2,Bool.and_false,Bool.false_eq_true,if_false]
section
variable(g:DR)(f:FuncId)(x0 x1:AV)(vs:List (List aH))
def Ik(acc:List aH):Heap:=⟨[[x0],[x1],[.func f [.ptr 0 0,.ptr 1 0]],[.sl .sh (vs.map di)],[cB ai acc]],bY ai acc,[]⟩
def GL(p:List aH×Int)(r:cZ×Heap):Prop:=(p.2=0∧r=(.ret (.tuple []),Ik f x0 x1 vs p.1))∨(p.2≠0∧r.1=.cS (iA p.2))
theorem Aj(QZ:∀s(B:List (List AV))(tk:List Nat),cv cfg (.call (.c (.func f [.ptr 0 0,.ptr 1 0])) [.c (.str s)]) ⟨[x0]::[x1]::B,tk,[]⟩ (.tuple [.int .i64 (g s).1,.int .i64 (g s).2]) ⟨[x0]::[x1]::B,tk,[]⟩)
 (ns:List (List UInt8))(Yw:ns.length≤100000):∀(post:List (List UInt8))(i:Nat)(hd:ns.drop i=post)(acc:List aH)(ha:acc.length≤i)(T:Env)
 (hT:Has T [(2,.ptr 4 0),(1,.ptr 2 0),(20,.sl .sh (ns.map .str)),(21,.int .i64 ns.length),(22,.int .i64 i)]),
 bA cfg Ck uY T (Ik f x0 x1 vs acc) (GL f x0 x1 vs (iH (fM g post acc))):=by
 intro post
 induction post with
 |nil=>
  intro i hd acc ha T hT
  have hge:=bf hd
  have hs:kf cfg 68 [.int .i64 4] (iA 4):=gj (by decide)
  have e:fM g [] acc=(acc,0):=rfl
  rw[e]
  by_cases h8:8<acc.length
  ·have e:iH (acc,0)=([],4):=by simp[iH,h8]
   rw[e]
   exact gG 90 _ hT (.no (dF ((↑i:Int)<(↑ns.length:Int)))<|.len (lM (dS acc) ai acc)<|.yes (dT ((8:Int)<(↑acc.length:Int)))<|.jP ([.int .i64 4]) ({boxes:=[[x0],[x1],[.func f [.ptr 0 0,.ptr 1 0]],[.sl .sh (vs.map di)],[.sl (dS acc) (acc.map ai)]],toks:=bY ai acc,loops:=[]:Heap}) hs ⟨rfl,rfl⟩ rfl (by exact .inr ⟨by decide,rfl⟩))
  ·have e:iH (acc,0)=(acc,0):=by simp[iH,h8]
   rw[e]
   exact gG 90 _ hT (.no (dF ((↑i:Int)<(↑ns.length:Int)))<|.len (lM (dS acc) ai acc)<|.no (dF ((8:Int)<(↑acc.length:Int)))<|.fin ((.ret (.tuple []),{boxes:=[[x0],[x1],[.func f [.ptr 0 0,.ptr 1 0]],[.sl .sh (vs.map di)],[.sl (dS acc) (acc.map ai)]],toks:=bY ai acc,loops:=[]:Heap})) (by exact .inl ⟨rfl,rfl⟩))
 |cons s post ih=>
  intro i hd acc ha T hT
  have hlt:=bg hd
  have cq:=aL hd
  have hx:cc 1 (.sl .sh (ns.map .str)) (.int .i64 (i:Nat))=some (.ref [.str s]):=bx (f:=AV.str) hd rfl
  have hf:=QZ s
  have e:fM g (s::post) acc=if(g s).2=0 then fM g post (if 0<(g s).1 then acc++[⟨s,(g s).1⟩]else acc)else([],(g s).2):=rfl
  rw[e]
  by_cases h0:(g s).2=0
  ·rw[if_pos h0]
   rw[h0]at hf
   by_cases hp:0<(g s).1
   ·rw[if_pos hp]
    have cQ:=ih (i+1) cq (acc++[⟨s,(g s).1⟩]) (by simp;omega)
    generalize(g s).1=n at hf hp cQ⊢
    have ap:∀bs ls,bw 2 24 ⟨bs,bY ai acc,ls⟩ (cB ai acc) (.sl .full [.agg [.str s,.int .i64 n]])=some (cB ai (acc++[⟨s,n⟩]),⟨bs,bY ai (acc++[⟨s,n⟩]),ls⟩):=fun bs ls=>
     gp ai (x:=⟨s,n⟩) (by simp;omega) Ll rfl rfl
    exact let ag:Heap:={boxes:=[[x0],[x1],[.func f [.ptr 0 0,.ptr 1 0]],[.sl .sh (vs.map di)],[.sl (dS acc) (acc.map ai)]],toks:=bY ai acc,loops:=[]:Heap};gG 120 _ hT (.yes (dT ((↑i:Int)<(↑ns.length:Int)))<|.idx hx<|.cw (show cv cfg (.call (.c (.func f [.ptr 0 0,.ptr 1 0])) [.c (.str s)]) ag (.tuple [.int .i64 n,.int .i64 0]) ag from hf _ _)<|.aG ([.int .i64 0]) (.tuple []) pT<|.yes (dT ((0:Int)<n) (by exact hp))<|.append (show bw 2 24 ag (.sl (dS acc) (acc.map ai)) (.sl .full [.agg [.str s,.int .i64 n]])=some ((cB ai (acc++[{name:=s,n:=n:aH}]),{boxes:=[[x0],[x1],[.func f [.ptr 0 0,.ptr 1 0]],[.sl .sh (vs.map di)],[.sl (dS acc) (acc.map ai)]],toks:=bY ai (acc++[{name:=s,n:=n:aH}]),loops:=[]:Heap}))from ap _ _)<|.bin (iI i)<|.aT uY [(2,.ptr 4 0),(1,.ptr 2 0),(20,.sl .sh (List.map .str ns)),(21,.int .i64 (↑ns.length)),(22,.int .i64 (↑(i+1)))] ({boxes:=[[x0],[x1],[.func f [.ptr 0 0,.ptr 1 0]],[.sl .sh (vs.map di)],[.sl (dS (acc++[{name:=s,n:=n:aH}])) (List.map ai (acc++[{name:=s,n:=n:aH}]))]],toks:=bY ai (acc++[{name:=s,n:=n:aH}]),loops:=[]:Heap}) (fun T hT=>(cQ T hT)))
   ·rw[if_neg hp]
    have cQ:=ih (i+1) cq acc (by omega)
    generalize(g s).1=n at hf hp cQ⊢
    exact let ag:Heap:={boxes:=[[x0],[x1],[.func f [.ptr 0 0,.ptr 1 0]],[.sl .sh (vs.map di)],[.sl (dS acc) (acc.map ai)]],toks:=bY ai acc,loops:=[]:Heap};gG 120 _ hT (.yes (dT ((↑i:Int)<(↑ns.length:Int)))<|.idx hx<|.cw (show cv cfg (.call (.c (.func f [.ptr 0 0,.ptr 1 0])) [.c (.str s)]) ag (.tuple [.int .i64 n,.int .i64 0]) ag from hf _ _)<|.aG ([.int .i64 0]) (.tuple []) pT<|.no (dF ((0:Int)<n) (by exact hp))<|.bin (iI i)<|.aT uY [(2,.ptr 4 0),(1,.ptr 2 0),(20,.sl .sh (List.map .str ns)),(21,.int .i64 (↑ns.length)),(22,.int .i64 (↑(i+1)))] (ag) (fun T hT=>(cQ T hT)))
  ·rw[if_neg h0]
   have hst:=gj h0
   have e:iH ([],(g s).2)=([],(g s).2):=by simp[iH,h0]
   rw[e]
   generalize(g s).2=e at hf h0 hst⊢
   exact let ag:Heap:={boxes:=[[x0],[x1],[.func f [.ptr 0 0,.ptr 1 0]],[.sl .sh (vs.map di)],[.sl (dS acc) (acc.map ai)]],toks:=bY ai acc,loops:=[]:Heap};gG 120 _ hT (.yes (dT ((↑i:Int)<(↑ns.length:Int)))<|.idx hx<|.cw (show cv cfg (.call (.c (.func f [.ptr 0 0,.ptr 1 0])) [.c (.str s)]) ag (.tuple [.int .i64 (g s).fst,.int .i64 e]) ag from hf _ _)<|.jP ([.int .i64 e]) (ag) hst ⟨rfl,rfl⟩ rfl (by exact .inr ⟨h0,rfl⟩))
theorem Ak(QZ:∀s(B:List (List AV))(tk:List Nat),cv cfg (.call (.c (.func f [.ptr 0 0,.ptr 1 0])) [.c (.str s)]) ⟨[x0]::[x1]::B,tk,[]⟩ (.tuple [.int .i64 (g s).1,.int .i64 (g s).2]) ⟨[x0]::[x1]::B,tk,[]⟩)
 (hv:vs.length≤100):∀(post:List (List aH))(i:Nat)(hd:vs.drop i=post)(hp:∀v∈vs.take i,gW v=0)(T:Env)
 (hT:Has T [(0,.ptr 3 0),(1,.ptr 2 0),(2,.ptr 4 0),(9,.sl .sh (vs.map di)),(10,.int .i64 vs.length),(11,.int .i64 i)]),
 bA cfg Ck Ab T (Ik f x0 x1 vs []) (GL f x0 x1 vs (if bq (post.map gW)=0 then iH (fM g (cy (allNames vs)) [])else([],bq (post.map gW)))):=by
 intro post
 induction post with
 |nil=>
  intro i hd hp T hT
  have hge:=bf hd
  have hall:∀v∈vs,v.length≤100:=fun v hm=>by
   have:=hp v (by rw[List.take_of_length_le hge];exact hm)
   unfold gW at this
   split at this
   ·omega
   ·cases this
  have hn:=CW vs hv hall
  have hnl:(cy (allNames vs)).length≤10000:=by
   have h1:(cy (allNames vs)).length≤(allNames vs).length:=by
    unfold cy
    exact Nat.le_trans (GJ _) (Nat.le_of_eq (gf _))
   have h2:∀(l:List (List aH)),(∀v∈l,v.length≤100)→(allNames l).length≤100*l.length:=by
    intro l
    induction l with
    |nil=>intro _;simp[allNames]
    |cons v l ih=>
     intro h
     have:=ih fun w hw=>h w (by simp[hw])
     have h3:=h v (by simp)
     rw[jH,List.length_append,List.length_map,List.length_cons]
     omega
   have:=h2 vs hall
   omega
  have hn:=qW (xs:=[.sl .sh (vs.map di)]) hn rfl rfl (Ik f x0 x1 vs [])
  have h2:=Aj g f x0 x1 vs QZ (cy (allNames vs)) (by omega) (cy (allNames vs)) 0 rfl [] (by simp)
  have e:(if bq (([]:List (List aH)).map gW)=0 then iH (fM g (cy (allNames vs)) [])else([],bq (([]:List (List aH)).map gW)))=iH (fM g (cy (allNames vs)) []):=rfl
  rw[e]
  generalize cy (allNames vs)=ns at hn h2 hnl⊢
  exact gG 90 _ hT (.no (dF ((↑i:Int)<(↑vs.length:Int)))<|.cw hn<|.len (lM .sh .str ns)<|.aT uY [(2,.ptr 4 0),(1,.ptr 2 0),(20,.sl .sh (List.map .str ns)),(21,.int .i64 (↑ns.length)),(22,.int .i64 0)] ({boxes:=[[x0],[x1],[.func f [.ptr 0 0,.ptr 1 0]],[.sl .sh (vs.map di)],[.sl .full []]],toks:=[],loops:=[]:Heap}) (fun T hT=>(h2 T hT)))
 |cons v post ih=>
  intro i hd hp T hT
  have hlt:=bg hd
  have cq:=aL hd
  have hx:cc 1 (.sl .sh (vs.map di)) (.int .i64 (i:Nat))=some (.ref [di v]):=bx (f:=di) hd rfl
  have hc:=JE v
  by_cases h0:gW v=0
  ·have e:bq ((v::post).map gW)=bq (post.map gW):=by simp[bq,h0]
   rw[e]
   rw[h0]at hc
   have cQ:=ih (i+1) cq (fun w hw=>by
    rw[drop_take hd,List.mem_append]at hw
    rcases hw with hw|hw
    ·exact hp w hw
    ·rw[List.mem_singleton.1 hw];exact h0)
   exact gG 90 _ hT (.yes (dT ((↑i:Int)<(↑vs.length:Int)))<|.idx hx<|.aG ([.sl .sh (v.map ai)]) (.int .i64 0) hc<|.aG ([.int .i64 0]) (.tuple []) pT<|.bin (iI i)<|.aT Ab [(0,.ptr 3 0),(1,.ptr 2 0),(2,.ptr 4 0),(9,.sl .sh (vs.map di)),(10,.int .i64 (↑vs.length)),(11,.int .i64 (↑(i+1)))] ({boxes:=[[x0],[x1],[.func f [.ptr 0 0,.ptr 1 0]],[.sl .sh (vs.map di)],[.sl .full []]],toks:=[],loops:=[]:Heap}) (fun T hT=>(cQ T hT)))
  ·have e:bq ((v::post).map gW)=gW v:=by simp[bq,h0]
   rw[e,if_neg h0]
   have hst:=gj h0
   generalize gW v=c at hc h0 hst⊢
   exact gG 90 _ hT (.yes (dT ((↑i:Int)<(↑vs.length:Int)))<|.idx hx<|.aG ([.sl .sh (v.map ai)]) (.int .i64 c) hc<|.jP ([.int .i64 c]) ({boxes:=[[x0],[x1],[.func f [.ptr 0 0,.ptr 1 0]],[.sl .sh (vs.map di)],[.sl .full []]],toks:=[],loops:=[]:Heap}) hst ⟨rfl,rfl⟩ rfl (by exact .inr ⟨h0,rfl⟩))
theorem GM(QZ:∀s(B:List (List AV))(tk:List Nat),cv cfg (.call (.c (.func f [.ptr 0 0,.ptr 1 0])) [.c (.str s)]) ⟨[x0]::[x1]::B,tk,[]⟩ (.tuple [.int .i64 (g s).1,.int .i64 (g s).2]) ⟨[x0]::[x1]::B,tk,[]⟩)
 (hv:vs.length≤100)(hx:bI x0=true∧bI x1=true):∃H',cv cfg (.call (.c (.func 229 [])) [.c (.func f [.ptr 0 0,.ptr 1 0]),.c (.sl .sh (vs.map di))]) ⟨[[x0],[x1]],[],[]⟩ (.tuple [.sl .sh ((gX g vs).1.map ai),.int .i64 (gX g vs).2]) H':=by
 have h1:=Ak g f x0 x1 vs QZ hv vs 0 rfl (by simp)
 have key:bA cfg Ck [.c MO] (ay [.ptr 3 0,.ptr 2 0,.ptr 4 0]) (Ik f x0 x1 vs []) (GL f x0 x1 vs (gX g vs)):=by
  exact gG 60 [] trivial (.len (lM .sh di vs)<|.aT Ab [(0,.ptr 3 0),(1,.ptr 2 0),(2,.ptr 4 0),(9,.sl .sh (vs.map di)),(10,.int .i64 (↑vs.length)),(11,.int .i64 0)] ({boxes:=[[x0],[x1],[.func f [.ptr 0 0,.ptr 1 0]],[.sl .sh (vs.map di)],[.sl .full []]],toks:=[],loops:=[]:Heap}) (fun T hT=>(h1 T hT)))
 obtain⟨⟨a,H1⟩,hr,hR⟩:=key
 have hin:∀nb nt,rZ nb nt x0=true∧rZ nb nt x1=true:=fun nb nt=>⟨lY hx.1,lY hx.2⟩
 rcases hR with⟨he,hR⟩|⟨he,hR⟩
 ·simp only[Prod.mk.injEq]at hR
  obtain⟨rfl,rfl⟩:=hR
  have ht:lim cfg (.fn 66) [.func 272 [.ptr 3 0,.ptr 2 0,.ptr 4 0]] (Ik f x0 x1 vs [])=some (.ret (.int .i64 0),Ik f x0 x1 vs (gX g vs).1):=by
   rw[ke rfl,QU,hr];rfl
  have hd:cv cfg (.call (.c (.func 66 [])) [.c (.func 272 [.ptr 3 0,.ptr 2 0,.ptr 4 0])]) (Ik f x0 x1 vs []) (.int .i64 0) (Ik f x0 x1 vs (gX g vs).1):=by
   have hd:=bU (xs:=[.func 272 [.ptr 3 0,.ptr 2 0,.ptr 4 0]]) (caps:=[]) ht rfl rfl
   refine Eq.mp ?_ hd
   congr 1
   generalize(gX g vs).1=l
   show de 5 0 (.int .i64 0) ⟨[[x0],[x1],[.func f [.ptr 0 0,.ptr 1 0]],[.sl .sh (vs.map di)],[cB ai l]],bY ai l,[]⟩=_
   cases l with
   |nil=>exact oG (by rfl)
   |cons y l=>
    rw[vn]
    refine(Ai (by rfl) ?_).trans ?_
    ·simp[cB,dS,rZ,Og,yA]
    ·rw[←vn ai y l];rfl
  rw[he]
  generalize(gX g vs).1=l at hd⊢
  have k2:bA cfg a229 [.c Jc] (ay [.func f [.ptr 0 0,.ptr 1 0],.sl .sh (vs.map di)]) ⟨[[x0],[x1]],[],[]⟩ (fun r=>r.1=.ret (.tuple [cB ai l,.int .i64 0])):=by
   exact gG 60 [] trivial (.cw hd<|.ff<|.fin ((.ret (.tuple [.sl (dS l) (l.map ai),.int .i64 0]),{boxes:=[[x0],[x1],[.func f [.ptr 0 0,.ptr 1 0]],[.sl .sh (vs.map di)],[.sl (dS l) (l.map ai)]],toks:=bY ai l,loops:=[]:Heap})) rfl)
  obtain⟨⟨a,H2⟩,h2,h3⟩:=k2
  simp only at h3
  subst h3
  have h4:lim cfg (.fn 229) ([.func f [.ptr 0 0,.ptr 1 0],.sl .sh (vs.map di)]++[]) ⟨[[x0],[x1]],[],[]⟩=some (.ret (.tuple [cB ai l,.int .i64 0]),H2):=by
   rw[List.append_nil,QO];exact h2
  have SF:=bU h4 rfl rfl
  have es:bz (.tuple [cB ai l,.int .i64 0])=.tuple [.sl .sh (l.map ai),.int .i64 0]:=by cases l<;>rfl
  rw[es]at SF
  exact⟨_,SF⟩
 ·simp only at hR
  subst hR
  have ht:lim cfg (.fn 66) [.func 272 [.ptr 3 0,.ptr 2 0,.ptr 4 0]] (Ik f x0 x1 vs [])=some (.ret (.int .i64 (gX g vs).2),H1):=by
   rw[ke rfl,QU,hr];rfl
  have hd:=bU (xs:=[.func 272 [.ptr 3 0,.ptr 2 0,.ptr 4 0]]) (caps:=[]) ht rfl rfl
  generalize de _ _ _ H1=H2 at hd
  have e0:(gX g vs).1=[]:=by
   unfold gX at he⊢
   split
   ·rename_i h;rw[if_pos h]at he
    unfold iH at he⊢
    split
    ·rename_i h2;rw[if_pos h2]at he
     split
     ·rfl
     ·rename_i h3;rw[if_neg h3]at he;exact absurd rfl he
    ·rfl
   ·rfl
  rw[e0]
  generalize(gX g vs).2=c at hd he⊢
  have k2:bA cfg a229 [.c Jc] (ay [.func f [.ptr 0 0,.ptr 1 0],.sl .sh (vs.map di)]) ⟨[[x0],[x1]],[],[]⟩ (fun r=>r.1=.ret (.tuple [.sl .full [],.int .i64 c])):=by
   exact gG 60 [] trivial (.cw hd<|.yes (show(c !=(0:Int))=true from(by simpa using he))<|.fin ((.ret (.tuple [.sl .full [],.int .i64 c]),H2)) rfl)
  obtain⟨⟨a,H3⟩,h2,h3⟩:=k2
  simp only at h3
  subst h3
  have h4:lim cfg (.fn 229) ([.func f [.ptr 0 0,.ptr 1 0],.sl .sh (vs.map di)]++[]) ⟨[[x0],[x1]],[],[]⟩=some (.ret (.tuple [.sl .full [],.int .i64 c]),H3):=by
   rw[List.append_nil,QO];exact h2
  have SF:=bU h4 rfl rfl
  exact⟨_,SF⟩
end
theorem Nu(a b:List aH)(ha:a.length<9223372036854775807)(hb:b.length<9223372036854775807)(ra:∀s,nH (bT a s))(rb:∀s,nH (bT b s))(s:List UInt8)(B:List (List AV))(tk:List Nat):
 cv cfg (.call (.c (.func 284 [.ptr 0 0,.ptr 1 0])) [.c (.str s)]) ⟨[di a]::[di b]::B,tk,[]⟩ (.tuple [.int .i64 (eN (bT a s) (bT b s)).1,.int .i64 (eN (bT a s) (bT b s)).2]) ⟨[di a]::[di b]::B,tk,[]⟩:=by
 have g1:=nJ a s ha
 have g2:=nJ b s hb
 have g3:=GG _ _ (ra s) (rb s)
 generalize bT a s=p at g1 g3⊢
 generalize bT b s=q at g2 g3⊢
 generalize eN p q=z at g3⊢
 have key:bA cfg Jk [.c MR] (ay [.str s,.ptr 0 0,.ptr 1 0]) ⟨[di a]::[di b]::B,tk,[]⟩ (fun r=>r=(.ret (.tuple [.int .i64 z.1,.int .i64 z.2]),⟨[di a]::[di b]::B,tk,[]⟩)):=by
  exact let ag:Heap:={boxes:=[.sl .sh (a.map ai)]::[.sl .sh (b.map ai)]::B,toks:=tk,loops:=[]:Heap};let ax:List AV:=[.int .i64 z.fst,.int .i64 z.snd];let aS:List AV:=[.sl .sh (a.map ai),.str s];let bt:List AV:=[.sl .sh (b.map ai),.str s];gG 60 [] trivial (.load (lB false 1 ag 0 0 (.sl .sh (a.map ai)) [.sl .sh (a.map ai)])<|.aG (aS) (.int .i64 p) g1<|.load (lB false 1 ag 1 0 (.sl .sh (b.map ai)) [.sl .sh (b.map ai)])<|.aG (bt) (.int .i64 q) g2<|.aG ([.int .i64 p,.int .i64 q]) (.tuple ax) g3<|.fin ((.ret (.tuple ax),ag)) rfl)
 obtain⟨r,h,rfl⟩:=key
 have h2:lim cfg (.fn 284) ([.str s]++[.ptr 0 0,.ptr 1 0]) ⟨[di a]::[di b]::B,tk,[]⟩=some (.ret (.tuple [.int .i64 z.1,.int .i64 z.2]),⟨[di a]::[di b]::B,tk,[]⟩):=by
  rw[show([AV.str s]++[.ptr 0 0,.ptr 1 0])=[.str s,.ptr 0 0,.ptr 1 0]from rfl,U7];exact h
 have hd:=bU h2 rfl rfl
 rwa [dc]at hd
def pJ(v:List aH):Prop:=∀x∈v,nH x.n
theorem vo{v:List aH}(h:pJ v)(s:List UInt8):nH (bT v s):=by
 unfold bT
 split
 ·rename_i x hx;exact h x (List.mem_of_find?_eq_some hx)
 ·unfold nH;omega
def gu(a b:List aH):List aH×Int:=gX (fun s=>eN (bT a s) (bT b s)) [a,b]
theorem GN(a b:List aH)(ha:a.length<9223372036854775807)(hb:b.length<9223372036854775807)(ra:pJ a)(rb:pJ b):
 aq cfg 256 [.sl .sh (a.map ai),.sl .sh (b.map ai)] (.tuple [.sl .sh ((gu a b).1.map ai),.int .i64 (gu a b).2]):=by
 refine aq.run (US _ _) ?_
 obtain⟨H',h⟩:=GM (fun s=>eN (bT a s) (bT b s)) 284 (di a) (di b) [a,b] (Nu a b ha hb (vo ra) (vo rb)) (by simp) ⟨rfl,rfl⟩
 have h2:cv cfg (.call (.c (.func 229 [])) [.c (.func 284 [.ptr 0 0,.ptr 1 0]),.c (.sl .sh [.sl .sh (a.map ai),.sl .sh (b.map ai)])]) ⟨[[.sl .sh (a.map ai)],[.sl .sh (b.map ai)]],[],[]⟩ (.tuple [.sl .sh ((gu a b).1.map ai),.int .i64 (gu a b).2]) H':=h
 have h3:cv cfg (.call (.c (.func 229 [])) [.c (.func 284 [.ptr 0 0,.ptr 1 0]),.c (.sl .full [.sl .sh (a.map ai),.sl .sh (b.map ai)])]) ⟨[[.sl .sh (a.map ai)],[.sl .sh (b.map ai)]],[],[]⟩ (.tuple [.sl .sh ((gu a b).1.map ai),.int .i64 (gu a b).2]) H':=fun T=>h2 T
 generalize gu a b=z at h3⊢
 exact let ag:List AV:=[.sl .sh (z.fst.map ai),.int .i64 z.snd];gG 60 [] trivial (.cw h3<|.fin ((.ret (.tuple ag),H')) rfl)
end Go.Aa.T
namespace Go.Aa.T
open Go.Aa Go.Proofs
structure cT where
 name:List UInt8
 owner:List UInt8
 prio:Int
 need:List aH
 labels:List fL
 bS:List Term
 bh:List je
 key:List UInt8
 most:Int
 node:List UInt8
 hold:Bool
def af(p:cT):AV:=.agg [.str p.name,.str p.owner,.int .i64 p.prio,.sl .sh (p.need.map ai),.sl .sh (p.labels.map aI),.sl .sh (p.bS.map aX),.sl .sh (p.bh.map aQ),.str p.key,.int .i64 p.most,.str p.node,.bool p.hold]
def cz(s:List UInt8):Int:=if s=[]then 0 else if isName s then 0 else 3
def l7(n lo hi:Int):Int:=if n<lo then 1 else if hi<n then 1 else 0
def Br(p:cT):Int:=if p.hold then l7 p.prio (-1) (-1)else l7 p.prio 0 1000000
def Bs(p:cT):Int:=if p.key=[]then l7 p.most 0 0 else l7 p.most 1 128
def pK(p:cT):Int:=bq [if isName p.name then 0 else 3,cz p.owner,Br p,gW p.need,Bm p.labels,Ij p.bS,Nq p.bh,cz p.key,Bs p,cz p.node]
theorem jA:∀{l:List Int},bq l=0→∀x∈l,x=0
 |[],_=>by simp
 |x::l,h=>by
  unfold bq at h
  split at h
  ·intro y hy
   rcases List.mem_cons.1 hy with rfl|hy
   ·assumption
   ·exact jA h y hy
  ·contradiction
structure WR(p:cT):Prop where
 name:isName p.name=true
 owner:p.owner=[]∨isName p.owner=true
 prio: -1≤p.prio∧p.prio≤1000000
 hold:p.hold=decide (p.prio= -1)
 need:gW p.need=0
 labels:Bm p.labels=0
 bS:Ij p.bS=0
 bh:Nq p.bh=0
 key:p.key=[]∨isName p.key=true
 most:0≤p.most∧p.most≤128∧(p.key=[]↔p.most=0)
 node:p.node=[]∨isName p.node=true
end Go.Aa.T

