/-
  WHAT THE LAW LEANS ON, part 7 of 9: a machine of values and its soundness; the functions of the law upon it; what they come to.
-/
import Derived.Test.YtbcfceehklfojaaGreatDoorVtwof
set_option linter.unusedVariables false
set_option linter.unusedSimpArgs false
set_option maxRecDepth 100000
namespace Go.Aa.T
open Go.Aa Go.Proofs
theorem bl_eq(x y:List UInt8):Op.bytesLess x y=decide (x<y):=bytesLess_eq x y
theorem bl_irrefl(x:List UInt8):Op.bytesLess x x=false:=by rw[bl_eq];simp[List.lt_irrefl]
theorem bl_trans{x y z:List UInt8}(h1:Op.bytesLess x y=true)(h2:Op.bytesLess y z=true):Op.bytesLess x z=true:=by
 rw[bl_eq,decide_eq_true_eq]at h1 h2⊢
 exact List.lt_trans h1 h2
theorem bl_not{x y:List UInt8}(h:(Op.bytesLess x y||x==y)=false):Op.bytesLess y x=true:=by
 simp only[Bool.or_eq_false_iff,beq_eq_false_iff_ne,bl_eq,decide_eq_false_iff_not]at h
 rw[bl_eq,decide_eq_true_eq]
 obtain⟨h1,h2⟩:=h
 by_cases h3:y<x
 ·exact h3
 ·exact absurd (List.le_antisymm (List.not_lt.1 h3) (List.not_lt.1 h1)) h2
theorem bl_asym{x y:List UInt8}(h:Op.bytesLess x y=true):(Op.bytesLess y x||y==x)=false:=by
 rw[Bool.or_eq_false_iff]
 constructor
 ·cases h':Op.bytesLess y x with
  |false=>rfl
  |true=>have:=bl_trans h h';rw[bl_irrefl]at this;cases this
 ·rw[beq_eq_false_iff_ne]
  rintro rfl
  rw[bl_irrefl]at h;cases h
abbrev Rise(l:List (List UInt8)):Prop:=l.Pairwise fun x y=>Op.bytesLess x y=true
theorem rise_ext:∀{l m:List (List UInt8)},Rise l→Rise m→(∀x,x∈l↔x∈m)→l=m
 |[],[],_,_,_=>rfl
 |[],y::m,_,_,h=>absurd ((h y).2 (by simp)) (by simp)
 |x::l,[],_,_,h=>absurd ((h x).1 (by simp)) (by simp)
 |x::l,y::m,h1,h2,h=>by
  have a1:∀z,z∈l→Op.bytesLess x z=true:=fun z hz=>List.rel_of_pairwise_cons h1 hz
  have a2:∀z,z∈m→Op.bytesLess y z=true:=fun z hz=>List.rel_of_pairwise_cons h2 hz
  have e:x=y:=by
   rcases List.mem_cons.1 ((h x).1 (by simp))with e|hx
   ·exact e
   ·rcases List.mem_cons.1 ((h y).2 (by simp))with e|hy
    ·exact e.symm
    ·have:=bl_trans (a1 _ hy) (a2 _ hx)
     rw[bl_irrefl]at this;cases this
  subst e
  congr 1
  refine rise_ext (List.Pairwise.of_cons h1) (List.Pairwise.of_cons h2) fun z=> ?_
  have hz:=h z
  simp only[List.mem_cons]at hz
  constructor
  ·intro h3
   rcases hz.1 (.inr h3)with e|h4
   ·subst e;have:=a1 _ h3;rw[bl_irrefl]at this;cases this
   ·exact h4
  ·intro h3
   rcases hz.2 (.inr h3)with e|h4
   ·subst e;have:=a2 _ h3;rw[bl_irrefl]at this;cases this
   ·exact h4
theorem uqG_mem(x z:List UInt8):∀{l:List (List UInt8)},z∈uqG x l→z∈l
 |[],h=>by simp[uqG]at h
 |y::l,h=>by
  unfold uqG at h
  split at h
  ·exact List.mem_cons_of_mem _ (uqG_mem x z h)
  ·rcases List.mem_cons.1 h with rfl|h
   ·simp
   ·exact List.mem_cons_of_mem _ (uqG_mem y z h)
theorem uqG_mem2(z:List UInt8):∀{l:List (List UInt8)}{x:List UInt8},z∈l→z=x∨z∈uqG x l
 |[],x,h=>by simp at h
 |y::l,x,h=>by
  unfold uqG
  by_cases e:y=x
  ·rw[if_pos e]
   rcases List.mem_cons.1 h with rfl|h
   ·exact .inl e
   ·exact uqG_mem2 z h
  ·rw[if_neg e]
   rcases List.mem_cons.1 h with rfl|h
   ·exact .inr (by simp)
   ·rcases uqG_mem2 (x:=y) z h with h2|h2
    ·exact .inr (by simp[h2])
    ·exact .inr (by simp[h2])
theorem uq_mem{z:List UInt8}{l:List (List UInt8)}:z∈uq l↔z∈l:=by
 cases l with
 |nil=>simp[uq]
 |cons x l=>
  simp only[uq,List.mem_cons]
  constructor
  ·rintro(h|h)
   ·exact .inl h
   ·exact .inr (uqG_mem x z h)
  ·rintro(h|h)
   ·exact .inl h
   ·exact uqG_mem2 z h
theorem le_ne_bl{x y:List UInt8}(h:x≤y)(hn:y≠x):Op.bytesLess x y=true:=by
 rw[bl_eq,decide_eq_true_eq]
 by_cases h3:x<y
 ·exact h3
 ·exact absurd (List.le_antisymm (List.not_lt.1 h3) h) hn
theorem uqG_rise:∀{l:List (List UInt8)}{x:List UInt8},(x::l).Pairwise (·≤·)→Rise (x::uqG x l)
 |[],x,_=>by simp[uqG,Rise]
 |y::l,x,h=>by
  have h1:∀{z},z∈y::l→x≤z:=fun hz=>List.rel_of_pairwise_cons h hz
  have h2:=List.Pairwise.of_cons h
  unfold uqG
  by_cases e:y=x
  ·rw[if_pos e]
   refine uqG_rise ?_
   refine List.Pairwise.cons (fun z hz=>h1 (List.mem_cons_of_mem _ hz)) (List.Pairwise.of_cons h2)
  ·rw[if_neg e]
   have h3:=uqG_rise h2
   refine List.Pairwise.cons (fun z hz=> ?_) h3
   have hxy:=le_ne_bl (h1 (by simp)) e
   rcases List.mem_cons.1 hz with rfl|hz
   ·exact hxy
   ·exact bl_trans hxy (List.rel_of_pairwise_cons h3 hz)
theorem namesOf_rise(l:List (List UInt8)):Rise (namesOf l):=by
 unfold namesOf
 have h:=isort_sorted l
 cases hl:isort l with
 |nil=>simp[uq,Rise]
 |cons x m=>rw[hl]at h;exact uqG_rise h
theorem namesOf_mem{l:List (List UInt8)}{z:List UInt8}:z∈namesOf l↔z∈l:=by
 unfold namesOf
 rw[uq_mem,(isort_perm l).mem_iff]
theorem namesOf_eq{l m:List (List UInt8)}(hm:Rise m)(h:∀x,x∈l↔x∈m):namesOf l=m:=
 rise_ext (namesOf_rise l) hm fun x=>by rw[namesOf_mem,h]
def mergeN:List (List UInt8)→List (List UInt8)→List (List UInt8)
 |[],b=>b
 |x::a,[]=>x::a
 |x::a,y::b=>if Op.bytesLess x y=true then x::mergeN a (y::b)else if Op.bytesLess y x=true then y::mergeN (x::a) b else x::mergeN a b
 termination_by a b=>a.length+b.length
theorem merge_nil(b:List (List UInt8)):mergeN [] b=b:=by rw[mergeN]
theorem merge_nil2(a:List (List UInt8)):mergeN a []=a:=by cases a<;>rw[mergeN]
theorem merge_mem:∀(n:Nat)(a b:List (List UInt8)),a.length+b.length≤n→∀x,x∈mergeN a b↔x∈a∨x∈b:=by
 intro n
 induction n with
 |zero=>
  intro a b h x
  obtain rfl:a=[]:=List.length_eq_zero_iff.1 (by omega)
  obtain rfl:b=[]:=List.length_eq_zero_iff.1 (by omega)
  simp[merge_nil]
 |succ n ih=>
  intro a b h x
  cases a with
  |nil=>simp[merge_nil]
  |cons p a=>
   cases b with
   |nil=>simp[merge_nil2]
   |cons q b=>
    simp only[List.length_cons]at h
    rw[mergeN]
    by_cases h1:Op.bytesLess p q=true
    ·rw[if_pos h1,List.mem_cons,ih a (q::b) (by simp;omega)]
     simp only[List.mem_cons];constructor<;>(intro h;grind)
    ·rw[if_neg h1]
     by_cases h2:Op.bytesLess q p=true
     ·rw[if_pos h2,List.mem_cons,ih (p::a) b (by simp;omega)]
      simp only[List.mem_cons];constructor<;>(intro h;grind)
     ·have e:p=q:=by
       cases hb:(Op.bytesLess p q||p==q)with
       |false=>exact absurd (bl_not hb) h2
       |true=>simpa[h1]using hb
      rw[if_neg h2,List.mem_cons,ih a b (by omega)]
      simp only[List.mem_cons,e];constructor<;>(intro h;grind)
theorem merge_rise:∀(n:Nat)(a b:List (List UInt8)),a.length+b.length≤n→Rise a→Rise b→Rise (mergeN a b):=by
 intro n
 induction n with
 |zero=>
  intro a b h ha hb
  obtain rfl:a=[]:=List.length_eq_zero_iff.1 (by omega)
  rw[merge_nil];exact hb
 |succ n ih=>
  intro a b h ha hb
  cases a with
  |nil=>rw[merge_nil];exact hb
  |cons p a=>
   cases b with
   |nil=>rw[merge_nil2];exact ha
   |cons q b=>
    simp only[List.length_cons]at h
    have a1:∀{z},z∈a→Op.bytesLess p z=true:=fun hz=>List.rel_of_pairwise_cons ha hz
    have b1:∀{z},z∈b→Op.bytesLess q z=true:=fun hz=>List.rel_of_pairwise_cons hb hz
    have a2:=List.Pairwise.of_cons ha
    have b2:=List.Pairwise.of_cons hb
    rw[mergeN]
    by_cases h1:Op.bytesLess p q=true
    ·rw[if_pos h1]
     refine List.Pairwise.cons (fun z hz=> ?_) (ih a (q::b) (by simp;omega) a2 hb)
     rcases(merge_mem _ a (q::b) (Nat.le_refl _) z).1 hz with hz|hz
     ·exact a1 hz
     ·rcases List.mem_cons.1 hz with rfl|hz
      ·exact h1
      ·exact bl_trans h1 (b1 hz)
    ·rw[if_neg h1]
     by_cases h2:Op.bytesLess q p=true
     ·rw[if_pos h2]
      refine List.Pairwise.cons (fun z hz=> ?_) (ih (p::a) b (by simp;omega) ha b2)
      rcases(merge_mem _ (p::a) b (Nat.le_refl _) z).1 hz with hz|hz
      ·rcases List.mem_cons.1 hz with rfl|hz
       ·exact h2
       ·exact bl_trans h2 (a1 hz)
      ·exact b1 hz
     ·have e:p=q:=by
       cases hb:(Op.bytesLess p q||p==q)with
       |false=>exact absurd (bl_not hb) h2
       |true=>simpa[h1]using hb
      subst e
      rw[if_neg h2]
      refine List.Pairwise.cons (fun z hz=> ?_) (ih a b (by omega) a2 b2)
      rcases(merge_mem _ a b (Nat.le_refl _) z).1 hz with hz|hz
      ·exact a1 hz
      ·exact b1 hz
theorem merge_names{a b:List (List UInt8)}(ha:Rise a)(hb:Rise b):namesOf (a++b)=mergeN a b:=
 namesOf_eq (merge_rise _ a b (Nat.le_refl _) ha hb) fun x=>by rw[merge_mem _ a b (Nat.le_refl _),List.mem_append]
abbrev nms(v:List Amount):List (List UInt8):=v.map Amount.name
def rowT(l:List (List UInt8)):AV:=rowS Heap.nil (l.map .str)
def rowU(l:List (List UInt8)):Heap:=rowH Heap.nil (l.map .str)
theorem names_ref_loop(a b:List Amount)(ha:a.length≤1000)(hb:b.length≤1000):∀(n:Nat)(pa pb:List Amount)(i k:Nat)(hn:pa.length+pb.length≤n)(hda:a.drop i=pa)(hdb:b.drop k=pb)(acc:List (List UInt8))(hl:acc.length+pa.length+pb.length≤2000)(T:Env)
 (hT:Has T [(0,.sl .sh (a.map encA)),(1,.sl .sh (b.map encA)),(5,rowT acc),(6,.int .i64 i),(7,.int .i64 k)]),
 Goes cfg a60 k60_0 T (rowU acc) (IsRet (rowT (acc++mergeN (nms pa) (nms pb)))):=by
 intro n
 induction n with
 |zero=>
  intro pa pb i k hn hda hdb acc hl T hT
  obtain rfl:pa=[]:=List.length_eq_zero_iff.1 (by omega)
  obtain rfl:pb=[]:=List.length_eq_zero_iff.1 (by omega)
  have h1:=drop_ge hda
  have h2:=drop_ge hdb
  rw[show nms []=[]from rfl,merge_nil,List.append_nil]
  exact goG 60 _ hT (.len (show lenA false (.sl .sh (a.map encA))=some (.int .i64 (↑a.length))from len_map _)<|.no (show(decide ((↑i:Int)<(↑a.length:Int)))=false from decide_eq_false (by omega))<|.len (show lenA false (.sl .sh (b.map encA))=some (.int .i64 (↑b.length))from len_map _)<|.no (show(decide ((↑k:Int)<(↑b.length:Int)))=false from decide_eq_false (by omega))<|.fin ((.ret (rowT acc),rowU acc)) rfl) (by kernel_rfl)
 |succ n ih=>
  intro pa pb i k hn hda hdb acc hl T hT
  have ap:∀s:List UInt8,appendA 1 16 (rowU acc) (rowT acc) (.sl .full [.str s])=some (rowT (acc++[s]),rowU (acc++[s])):=fun s=>row_append_map (f:=AV.str) (by simp;omega) (lenOk_map fun _=>rfl) rfl rfl
  cases pa with
  |nil=>
   have h1:=drop_ge hda
   cases pb with
   |nil=>
    have h2:=drop_ge hdb
    rw[show nms []=[]from rfl,merge_nil,List.append_nil]
    exact goG 60 _ hT (.len (show lenA false (.sl .sh (a.map encA))=some (.int .i64 (↑a.length))from len_map _)<|.no (show(decide ((↑i:Int)<(↑a.length:Int)))=false from decide_eq_false (by omega))<|.len (show lenA false (.sl .sh (b.map encA))=some (.int .i64 (↑b.length))from len_map _)<|.no (show(decide ((↑k:Int)<(↑b.length:Int)))=false from decide_eq_false (by omega))<|.fin ((.ret (rowT acc),rowU acc)) rfl) (by kernel_rfl)
   |cons y pb=>
    have h2:=drop_lt hdb
    have h3:=drop_next hdb
    have ih':=ih [] pb i (k+1) (by simp at hn⊢;omega) hda h3 (acc++[y.name]) (by simp at hl⊢;omega)
    rw[show nms []=[]from rfl,merge_nil]at ih'⊢
    have e:acc++nms (y::pb)=acc++[y.name]++nms pb:=by simp[nms]
    rw[e]
    have hy:idxA 2 (.sl .sh (b.map encA)) (.int .i64 (k:Nat))=some (.ref [.str y.name,.int .i64 y.n]):=idx_row (f:=encA) hdb rfl
    exact let ζ1:Heap:=(roomH (roomH (rowU acc) (resvCells [mV 31 7,mV 32 1,⟨some 33,.len false (.t 32),none,[1]⟩,⟨some 34,.bin BinOp.geq (.t 31) (.t 33),none,[1,2,0]⟩,⟨some 35,.mov (.t 34),none,[0,2,1,3]⟩,{dst:=some (36:Nat),op:=.mov (.t 6),guard:=some ((35:Nat),false),deps:=[(3:Nat),(1:Nat),(2:Nat),(0:Nat),(4:Nat)]:AOper},{dst:=some (37:Nat),op:=.mov (.t 0),guard:=some ((35:Nat),false),deps:=[(3:Nat),(1:Nat),(2:Nat),(0:Nat),(4:Nat)]:AOper},{dst:=some (38:Nat),op:=.len false (.t 37),guard:=some ((35:Nat),false),deps:=[(4:Nat),(0:Nat),(2:Nat),(1:Nat),(3:Nat),(6:Nat)]:AOper},{dst:=some (39:Nat),op:=.bin BinOp.lss (.t 36) (.t 38),guard:=some ((35:Nat),false),deps:=[(6:Nat),(7:Nat),(4:Nat),(0:Nat),(2:Nat),(1:Nat),(3:Nat),(5:Nat)]:AOper},{dst:=some (40:Nat),op:=.mov (.t 39),guard:=some ((35:Nat),false),deps:=[(5:Nat),(3:Nat),(1:Nat),(2:Nat),(0:Nat),(4:Nat),(7:Nat),(6:Nat),(8:Nat)]:AOper},{dst:=some (41:Nat),op:=.mov (.t 0),guard:=some ((40:Nat),true),deps:=[(8:Nat),(6:Nat),(7:Nat),(4:Nat),(0:Nat),(2:Nat),(1:Nat),(3:Nat),(5:Nat),(9:Nat)]:AOper},{dst:=some (42:Nat),op:=.mov (.t 6),guard:=some ((40:Nat),true),deps:=[(8:Nat),(6:Nat),(7:Nat),(4:Nat),(0:Nat),(2:Nat),(1:Nat),(3:Nat),(5:Nat),(9:Nat)]:AOper},{dst:=some (43:Nat),op:=.idx (2:Nat) (.t 41) (.t 42),guard:=some ((40:Nat),true),deps:=[(11:Nat),(9:Nat),(5:Nat),(3:Nat),(1:Nat),(2:Nat),(0:Nat),(4:Nat),(7:Nat),(6:Nat),(8:Nat),(10:Nat)]:AOper},{dst:=some (44:Nat),op:=.fld (0:Nat) (1:Nat) (.t 43),guard:=some ((40:Nat),true),deps:=[(10:Nat),(8:Nat),(6:Nat),(7:Nat),(4:Nat),(0:Nat),(2:Nat),(1:Nat),(3:Nat),(5:Nat),(9:Nat),(11:Nat),(12:Nat)]:AOper},{dst:=some (45:Nat),op:=.load false (1:Nat) (.t 44),guard:=some ((40:Nat),true),deps:=[(12:Nat),(11:Nat),(9:Nat),(5:Nat),(3:Nat),(1:Nat),(2:Nat),(0:Nat),(4:Nat),(7:Nat),(6:Nat),(8:Nat),(10:Nat),(13:Nat)]:AOper},{dst:=some (46:Nat),op:=.mov (.t 1),guard:=some ((40:Nat),true),deps:=[(8:Nat),(6:Nat),(7:Nat),(4:Nat),(0:Nat),(2:Nat),(1:Nat),(3:Nat),(5:Nat),(9:Nat)]:AOper},{dst:=some (47:Nat),op:=.mov (.t 7),guard:=some ((40:Nat),true),deps:=[(8:Nat),(6:Nat),(7:Nat),(4:Nat),(0:Nat),(2:Nat),(1:Nat),(3:Nat),(5:Nat),(9:Nat)]:AOper},{dst:=some (48:Nat),op:=.idx (2:Nat) (.t 46) (.t 47),guard:=some ((40:Nat),true),deps:=[(16:Nat),(9:Nat),(5:Nat),(3:Nat),(1:Nat),(2:Nat),(0:Nat),(4:Nat),(7:Nat),(6:Nat),(8:Nat),(15:Nat)]:AOper},{dst:=some (49:Nat),op:=.fld (0:Nat) (1:Nat) (.t 48),guard:=some ((40:Nat),true),deps:=[(15:Nat),(8:Nat),(6:Nat),(7:Nat),(4:Nat),(0:Nat),(2:Nat),(1:Nat),(3:Nat),(5:Nat),(9:Nat),(16:Nat),(17:Nat)]:AOper},{dst:=some (50:Nat),op:=.load false (1:Nat) (.t 49),guard:=some ((40:Nat),true),deps:=[(17:Nat),(16:Nat),(9:Nat),(5:Nat),(3:Nat),(1:Nat),(2:Nat),(0:Nat),(4:Nat),(7:Nat),(6:Nat),(8:Nat),(15:Nat),(18:Nat)]:AOper},{dst:=some (51:Nat),op:=.bin BinOp.lss (.t 45) (.t 50),guard:=some ((40:Nat),true),deps:=[(18:Nat),(15:Nat),(16:Nat),(17:Nat),(19:Nat),(13:Nat),(10:Nat),(8:Nat),(6:Nat),(7:Nat),(4:Nat),(0:Nat),(2:Nat),(1:Nat),(3:Nat),(5:Nat),(9:Nat),(11:Nat),(12:Nat),(14:Nat)]:AOper},{dst:=some (52:Nat),op:=.pick (.t 40) (.t 51) (.c (.bool false)),guard:=some ((35:Nat),false),deps:=[(14:Nat),(12:Nat),(11:Nat),(10:Nat),(13:Nat),(19:Nat),(17:Nat),(16:Nat),(15:Nat),(18:Nat),(20:Nat),(8:Nat),(6:Nat),(7:Nat),(4:Nat),(0:Nat),(2:Nat),(1:Nat),(3:Nat),(5:Nat),(9:Nat)]:AOper},⟨some 53,.pick (.t 35) (.c (.bool true)) (.t 52),none,[9,5,7,6,8,20,18,15,16,17,19,13,10,11,12,14,21,3,1,2,0,4]⟩,⟨some 30,.mov (.t 53),none,[4,0,2,1,3,21,14,12,11,10,13,19,17,16,15,18,20,8,6,7,5,9,22]⟩])) (resvCells [mV 65 6,mV 66 0,⟨some 67,.len false (.t 66),none,[1]⟩,⟨some 68,.bin BinOp.geq (.t 65) (.t 67),none,[1,2,0]⟩,⟨some 69,.mov (.t 68),none,[0,2,1,3]⟩,{dst:=some (70:Nat),op:=.mov (.t 1),guard:=some ((69:Nat),false),deps:=[(3:Nat),(1:Nat),(2:Nat),(0:Nat),(4:Nat)]:AOper},{dst:=some (71:Nat),op:=.mov (.t 7),guard:=some ((69:Nat),false),deps:=[(3:Nat),(1:Nat),(2:Nat),(0:Nat),(4:Nat)]:AOper},{dst:=some (72:Nat),op:=.idx (2:Nat) (.t 70) (.t 71),guard:=some ((69:Nat),false),deps:=[(6:Nat),(4:Nat),(0:Nat),(2:Nat),(1:Nat),(3:Nat),(5:Nat)]:AOper},{dst:=some (73:Nat),op:=.fld (0:Nat) (1:Nat) (.t 72),guard:=some ((69:Nat),false),deps:=[(5:Nat),(3:Nat),(1:Nat),(2:Nat),(0:Nat),(4:Nat),(6:Nat),(7:Nat)]:AOper},{dst:=some (74:Nat),op:=.load false (1:Nat) (.t 73),guard:=some ((69:Nat),false),deps:=[(7:Nat),(6:Nat),(4:Nat),(0:Nat),(2:Nat),(1:Nat),(3:Nat),(5:Nat),(8:Nat)]:AOper},{dst:=some (75:Nat),op:=.mov (.t 0),guard:=some ((69:Nat),false),deps:=[(3:Nat),(1:Nat),(2:Nat),(0:Nat),(4:Nat)]:AOper},{dst:=some (76:Nat),op:=.mov (.t 6),guard:=some ((69:Nat),false),deps:=[(3:Nat),(1:Nat),(2:Nat),(0:Nat),(4:Nat)]:AOper},{dst:=some (77:Nat),op:=.idx (2:Nat) (.t 75) (.t 76),guard:=some ((69:Nat),false),deps:=[(11:Nat),(4:Nat),(0:Nat),(2:Nat),(1:Nat),(3:Nat),(10:Nat)]:AOper},{dst:=some (78:Nat),op:=.fld (0:Nat) (1:Nat) (.t 77),guard:=some ((69:Nat),false),deps:=[(10:Nat),(3:Nat),(1:Nat),(2:Nat),(0:Nat),(4:Nat),(11:Nat),(12:Nat)]:AOper},{dst:=some (79:Nat),op:=.load false (1:Nat) (.t 78),guard:=some ((69:Nat),false),deps:=[(12:Nat),(11:Nat),(4:Nat),(0:Nat),(2:Nat),(1:Nat),(3:Nat),(10:Nat),(13:Nat)]:AOper},{dst:=some (80:Nat),op:=.bin BinOp.lss (.t 74) (.t 79),guard:=some ((69:Nat),false),deps:=[(13:Nat),(10:Nat),(11:Nat),(12:Nat),(14:Nat),(8:Nat),(5:Nat),(3:Nat),(1:Nat),(2:Nat),(0:Nat),(4:Nat),(6:Nat),(7:Nat),(9:Nat)]:AOper},⟨some 81,.pick (.t 69) (.c (.bool true)) (.t 80),none,[9,7,6,5,8,14,12,11,10,13,15,3,1,2,0,4]⟩,⟨some 64,.mov (.t 81),none,[4,0,2,1,3,15,13,10,11,12,14,8,5,6,7,9,16]⟩]));goG 90 _ hT (.len (show lenA false (.sl .sh (a.map encA))=some (.int .i64 (↑a.length))from len_map _)<|.no (show(decide ((↑i:Int)<(↑a.length:Int)))=false from decide_eq_false (by omega))<|.len (show lenA false (.sl .sh (b.map encA))=some (.int .i64 (↑b.length))from len_map _)<|.yes (show(decide ((↑k:Int)<(↑b.length:Int)))=true from decide_eq_true (by omega))<|.len (show lenA false (.sl .sh (b.map encA))=some (.int .i64 (↑b.length))from len_map _)<|.no (show(decide ((↑b.length:Int)≤(↑k:Int)))=false from decide_eq_false (by omega))<|.len (show lenA false (.sl .sh (a.map encA))=some (.int .i64 (↑a.length))from len_map _)<|.no (show(decide ((↑i:Int)<(↑a.length:Int)))=false from decide_eq_false (by omega))<|.ff<|.len (show lenA false (.sl .sh (a.map encA))=some (.int .i64 (↑a.length))from len_map _)<|.yes (show(decide ((↑a.length:Int)≤(↑i:Int)))=true from decide_eq_true (by omega))<|.tt<|.idx (show idxA 2 (.sl .sh (b.map encA)) (.int .i64 ↑k)=some (.ref [.str y.name,.int .i64 y.n])from hy)<|.load (show loadA false 1 ζ1 (.ref [.str y.name])=some (.str y.name)from rfl)<|.append (show appendA (1:Nat) (16:Nat) ζ1 (rowT acc) (.sl .full [.str y.name])=some ((rowT (acc++[y.name]),rowU (acc++[y.name])))from ap _)<|.bin (show binA .add (.int .i64 ↑k) (.int .i64 1)=some (.int .i64 (↑(k+(1:Nat)):Int))from inc_i (by omega))<|.cutQ k60_0 [(0,.sl .sh (a.map encA)),(1,.sl .sh (b.map encA)),(5,rowT (acc++[y.name])),(6,.int .i64 ↑i),(7,.int .i64 (↑(k+(1:Nat)):Int))] (rowU (acc++[y.name])) (fun T hT=>(ih' T hT))) (by kernel_rfl)
  |cons x pa=>
   have h1:=drop_lt hda
   have h1n:=drop_next hda
   have hx:idxA 2 (.sl .sh (a.map encA)) (.int .i64 (i:Nat))=some (.ref [.str x.name,.int .i64 x.n]):=idx_row (f:=encA) hda rfl
   cases pb with
   |nil=>
    have h2:=drop_ge hdb
    have ih':=ih pa [] (i+1) k (by simp at hn⊢;omega) h1n hdb (acc++[x.name]) (by simp at hl⊢;omega)
    rw[show nms []=[]from rfl,merge_nil2]at ih'⊢
    have e:acc++nms (x::pa)=acc++[x.name]++nms pa:=by simp[nms]
    rw[e]
    exact let ζ1:Heap:=(roomH (rowU acc) (resvCells [mV 31 7,mV 32 1,⟨some 33,.len false (.t 32),none,[1]⟩,⟨some 34,.bin BinOp.geq (.t 31) (.t 33),none,[1,2,0]⟩,⟨some 35,.mov (.t 34),none,[0,2,1,3]⟩,{dst:=some (36:Nat),op:=.mov (.t 6),guard:=some ((35:Nat),false),deps:=[(3:Nat),(1:Nat),(2:Nat),(0:Nat),(4:Nat)]:AOper},{dst:=some (37:Nat),op:=.mov (.t 0),guard:=some ((35:Nat),false),deps:=[(3:Nat),(1:Nat),(2:Nat),(0:Nat),(4:Nat)]:AOper},{dst:=some (38:Nat),op:=.len false (.t 37),guard:=some ((35:Nat),false),deps:=[(4:Nat),(0:Nat),(2:Nat),(1:Nat),(3:Nat),(6:Nat)]:AOper},{dst:=some (39:Nat),op:=.bin BinOp.lss (.t 36) (.t 38),guard:=some ((35:Nat),false),deps:=[(6:Nat),(7:Nat),(4:Nat),(0:Nat),(2:Nat),(1:Nat),(3:Nat),(5:Nat)]:AOper},{dst:=some (40:Nat),op:=.mov (.t 39),guard:=some ((35:Nat),false),deps:=[(5:Nat),(3:Nat),(1:Nat),(2:Nat),(0:Nat),(4:Nat),(7:Nat),(6:Nat),(8:Nat)]:AOper},{dst:=some (41:Nat),op:=.mov (.t 0),guard:=some ((40:Nat),true),deps:=[(8:Nat),(6:Nat),(7:Nat),(4:Nat),(0:Nat),(2:Nat),(1:Nat),(3:Nat),(5:Nat),(9:Nat)]:AOper},{dst:=some (42:Nat),op:=.mov (.t 6),guard:=some ((40:Nat),true),deps:=[(8:Nat),(6:Nat),(7:Nat),(4:Nat),(0:Nat),(2:Nat),(1:Nat),(3:Nat),(5:Nat),(9:Nat)]:AOper},{dst:=some (43:Nat),op:=.idx (2:Nat) (.t 41) (.t 42),guard:=some ((40:Nat),true),deps:=[(11:Nat),(9:Nat),(5:Nat),(3:Nat),(1:Nat),(2:Nat),(0:Nat),(4:Nat),(7:Nat),(6:Nat),(8:Nat),(10:Nat)]:AOper},{dst:=some (44:Nat),op:=.fld (0:Nat) (1:Nat) (.t 43),guard:=some ((40:Nat),true),deps:=[(10:Nat),(8:Nat),(6:Nat),(7:Nat),(4:Nat),(0:Nat),(2:Nat),(1:Nat),(3:Nat),(5:Nat),(9:Nat),(11:Nat),(12:Nat)]:AOper},{dst:=some (45:Nat),op:=.load false (1:Nat) (.t 44),guard:=some ((40:Nat),true),deps:=[(12:Nat),(11:Nat),(9:Nat),(5:Nat),(3:Nat),(1:Nat),(2:Nat),(0:Nat),(4:Nat),(7:Nat),(6:Nat),(8:Nat),(10:Nat),(13:Nat)]:AOper},{dst:=some (46:Nat),op:=.mov (.t 1),guard:=some ((40:Nat),true),deps:=[(8:Nat),(6:Nat),(7:Nat),(4:Nat),(0:Nat),(2:Nat),(1:Nat),(3:Nat),(5:Nat),(9:Nat)]:AOper},{dst:=some (47:Nat),op:=.mov (.t 7),guard:=some ((40:Nat),true),deps:=[(8:Nat),(6:Nat),(7:Nat),(4:Nat),(0:Nat),(2:Nat),(1:Nat),(3:Nat),(5:Nat),(9:Nat)]:AOper},{dst:=some (48:Nat),op:=.idx (2:Nat) (.t 46) (.t 47),guard:=some ((40:Nat),true),deps:=[(16:Nat),(9:Nat),(5:Nat),(3:Nat),(1:Nat),(2:Nat),(0:Nat),(4:Nat),(7:Nat),(6:Nat),(8:Nat),(15:Nat)]:AOper},{dst:=some (49:Nat),op:=.fld (0:Nat) (1:Nat) (.t 48),guard:=some ((40:Nat),true),deps:=[(15:Nat),(8:Nat),(6:Nat),(7:Nat),(4:Nat),(0:Nat),(2:Nat),(1:Nat),(3:Nat),(5:Nat),(9:Nat),(16:Nat),(17:Nat)]:AOper},{dst:=some (50:Nat),op:=.load false (1:Nat) (.t 49),guard:=some ((40:Nat),true),deps:=[(17:Nat),(16:Nat),(9:Nat),(5:Nat),(3:Nat),(1:Nat),(2:Nat),(0:Nat),(4:Nat),(7:Nat),(6:Nat),(8:Nat),(15:Nat),(18:Nat)]:AOper},{dst:=some (51:Nat),op:=.bin BinOp.lss (.t 45) (.t 50),guard:=some ((40:Nat),true),deps:=[(18:Nat),(15:Nat),(16:Nat),(17:Nat),(19:Nat),(13:Nat),(10:Nat),(8:Nat),(6:Nat),(7:Nat),(4:Nat),(0:Nat),(2:Nat),(1:Nat),(3:Nat),(5:Nat),(9:Nat),(11:Nat),(12:Nat),(14:Nat)]:AOper},{dst:=some (52:Nat),op:=.pick (.t 40) (.t 51) (.c (.bool false)),guard:=some ((35:Nat),false),deps:=[(14:Nat),(12:Nat),(11:Nat),(10:Nat),(13:Nat),(19:Nat),(17:Nat),(16:Nat),(15:Nat),(18:Nat),(20:Nat),(8:Nat),(6:Nat),(7:Nat),(4:Nat),(0:Nat),(2:Nat),(1:Nat),(3:Nat),(5:Nat),(9:Nat)]:AOper},⟨some 53,.pick (.t 35) (.c (.bool true)) (.t 52),none,[9,5,7,6,8,20,18,15,16,17,19,13,10,11,12,14,21,3,1,2,0,4]⟩,⟨some 30,.mov (.t 53),none,[4,0,2,1,3,21,14,12,11,10,13,19,17,16,15,18,20,8,6,7,5,9,22]⟩]));goG 90 _ hT (.len (show lenA false (.sl .sh (a.map encA))=some (.int .i64 (↑a.length))from len_map _)<|.yes (show(decide ((↑i:Int)<(↑a.length:Int)))=true from decide_eq_true (by omega))<|.tt<|.len (show lenA false (.sl .sh (b.map encA))=some (.int .i64 (↑b.length))from len_map _)<|.yes (show(decide ((↑b.length:Int)≤(↑k:Int)))=true from decide_eq_true (by omega))<|.tt<|.idx (show idxA 2 (.sl .sh (a.map encA)) (.int .i64 ↑i)=some (.ref [.str x.name,.int .i64 x.n])from hx)<|.load (show loadA false 1 ζ1 (.ref [.str x.name])=some (.str x.name)from rfl)<|.append (show appendA (1:Nat) (16:Nat) ζ1 (rowT acc) (.sl .full [.str x.name])=some ((rowT (acc++[x.name]),rowU (acc++[x.name])))from ap _)<|.bin (show binA .add (.int .i64 ↑i) (.int .i64 1)=some (.int .i64 (↑(i+1)))from inc_i (by omega))<|.cutQ k60_0 [(0,.sl .sh (a.map encA)),(1,.sl .sh (b.map encA)),(5,rowT (acc++[x.name])),(6,.int .i64 (↑(i+1))),(7,.int .i64 ↑k)] (rowU (acc++[x.name])) (fun T hT=>(ih' T hT))) (by kernel_rfl)
   |cons y pb=>
    have h2:=drop_lt hdb
    have h2n:=drop_next hdb
    have hy:idxA 2 (.sl .sh (b.map encA)) (.int .i64 (k:Nat))=some (.ref [.str y.name,.int .i64 y.n]):=idx_row (f:=encA) hdb rfl
    have e0:nms (x::pa)=x.name::nms pa:=rfl
    have e1:nms (y::pb)=y.name::nms pb:=rfl
    rw[e0,e1,mergeN]
    by_cases q1:Op.bytesLess x.name y.name=true
    ·have ih':=ih pa (y::pb) (i+1) k (by simp at hn⊢;omega) h1n hdb (acc++[x.name]) (by simp at hl⊢;omega)
     rw[if_pos q1]
     rw[e1,List.append_assoc,List.singleton_append]at ih'
     exact let ζ1:Heap:=(roomH (rowU acc) (resvCells [mV 31 7,mV 32 1,⟨some 33,.len false (.t 32),none,[1]⟩,⟨some 34,.bin BinOp.geq (.t 31) (.t 33),none,[1,2,0]⟩,⟨some 35,.mov (.t 34),none,[0,2,1,3]⟩,{dst:=some (36:Nat),op:=.mov (.t 6),guard:=some ((35:Nat),false),deps:=[(3:Nat),(1:Nat),(2:Nat),(0:Nat),(4:Nat)]:AOper},{dst:=some (37:Nat),op:=.mov (.t 0),guard:=some ((35:Nat),false),deps:=[(3:Nat),(1:Nat),(2:Nat),(0:Nat),(4:Nat)]:AOper},{dst:=some (38:Nat),op:=.len false (.t 37),guard:=some ((35:Nat),false),deps:=[(4:Nat),(0:Nat),(2:Nat),(1:Nat),(3:Nat),(6:Nat)]:AOper},{dst:=some (39:Nat),op:=.bin BinOp.lss (.t 36) (.t 38),guard:=some ((35:Nat),false),deps:=[(6:Nat),(7:Nat),(4:Nat),(0:Nat),(2:Nat),(1:Nat),(3:Nat),(5:Nat)]:AOper},{dst:=some (40:Nat),op:=.mov (.t 39),guard:=some ((35:Nat),false),deps:=[(5:Nat),(3:Nat),(1:Nat),(2:Nat),(0:Nat),(4:Nat),(7:Nat),(6:Nat),(8:Nat)]:AOper},{dst:=some (41:Nat),op:=.mov (.t 0),guard:=some ((40:Nat),true),deps:=[(8:Nat),(6:Nat),(7:Nat),(4:Nat),(0:Nat),(2:Nat),(1:Nat),(3:Nat),(5:Nat),(9:Nat)]:AOper},{dst:=some (42:Nat),op:=.mov (.t 6),guard:=some ((40:Nat),true),deps:=[(8:Nat),(6:Nat),(7:Nat),(4:Nat),(0:Nat),(2:Nat),(1:Nat),(3:Nat),(5:Nat),(9:Nat)]:AOper},{dst:=some (43:Nat),op:=.idx (2:Nat) (.t 41) (.t 42),guard:=some ((40:Nat),true),deps:=[(11:Nat),(9:Nat),(5:Nat),(3:Nat),(1:Nat),(2:Nat),(0:Nat),(4:Nat),(7:Nat),(6:Nat),(8:Nat),(10:Nat)]:AOper},{dst:=some (44:Nat),op:=.fld (0:Nat) (1:Nat) (.t 43),guard:=some ((40:Nat),true),deps:=[(10:Nat),(8:Nat),(6:Nat),(7:Nat),(4:Nat),(0:Nat),(2:Nat),(1:Nat),(3:Nat),(5:Nat),(9:Nat),(11:Nat),(12:Nat)]:AOper},{dst:=some (45:Nat),op:=.load false (1:Nat) (.t 44),guard:=some ((40:Nat),true),deps:=[(12:Nat),(11:Nat),(9:Nat),(5:Nat),(3:Nat),(1:Nat),(2:Nat),(0:Nat),(4:Nat),(7:Nat),(6:Nat),(8:Nat),(10:Nat),(13:Nat)]:AOper},{dst:=some (46:Nat),op:=.mov (.t 1),guard:=some ((40:Nat),true),deps:=[(8:Nat),(6:Nat),(7:Nat),(4:Nat),(0:Nat),(2:Nat),(1:Nat),(3:Nat),(5:Nat),(9:Nat)]:AOper},{dst:=some (47:Nat),op:=.mov (.t 7),guard:=some ((40:Nat),true),deps:=[(8:Nat),(6:Nat),(7:Nat),(4:Nat),(0:Nat),(2:Nat),(1:Nat),(3:Nat),(5:Nat),(9:Nat)]:AOper},{dst:=some (48:Nat),op:=.idx (2:Nat) (.t 46) (.t 47),guard:=some ((40:Nat),true),deps:=[(16:Nat),(9:Nat),(5:Nat),(3:Nat),(1:Nat),(2:Nat),(0:Nat),(4:Nat),(7:Nat),(6:Nat),(8:Nat),(15:Nat)]:AOper},{dst:=some (49:Nat),op:=.fld (0:Nat) (1:Nat) (.t 48),guard:=some ((40:Nat),true),deps:=[(15:Nat),(8:Nat),(6:Nat),(7:Nat),(4:Nat),(0:Nat),(2:Nat),(1:Nat),(3:Nat),(5:Nat),(9:Nat),(16:Nat),(17:Nat)]:AOper},{dst:=some (50:Nat),op:=.load false (1:Nat) (.t 49),guard:=some ((40:Nat),true),deps:=[(17:Nat),(16:Nat),(9:Nat),(5:Nat),(3:Nat),(1:Nat),(2:Nat),(0:Nat),(4:Nat),(7:Nat),(6:Nat),(8:Nat),(15:Nat),(18:Nat)]:AOper},{dst:=some (51:Nat),op:=.bin BinOp.lss (.t 45) (.t 50),guard:=some ((40:Nat),true),deps:=[(18:Nat),(15:Nat),(16:Nat),(17:Nat),(19:Nat),(13:Nat),(10:Nat),(8:Nat),(6:Nat),(7:Nat),(4:Nat),(0:Nat),(2:Nat),(1:Nat),(3:Nat),(5:Nat),(9:Nat),(11:Nat),(12:Nat),(14:Nat)]:AOper},{dst:=some (52:Nat),op:=.pick (.t 40) (.t 51) (.c (.bool false)),guard:=some ((35:Nat),false),deps:=[(14:Nat),(12:Nat),(11:Nat),(10:Nat),(13:Nat),(19:Nat),(17:Nat),(16:Nat),(15:Nat),(18:Nat),(20:Nat),(8:Nat),(6:Nat),(7:Nat),(4:Nat),(0:Nat),(2:Nat),(1:Nat),(3:Nat),(5:Nat),(9:Nat)]:AOper},⟨some 53,.pick (.t 35) (.c (.bool true)) (.t 52),none,[9,5,7,6,8,20,18,15,16,17,19,13,10,11,12,14,21,3,1,2,0,4]⟩,⟨some 30,.mov (.t 53),none,[4,0,2,1,3,21,14,12,11,10,13,19,17,16,15,18,20,8,6,7,5,9,22]⟩]));goG 90 _ hT (.len (show lenA false (.sl .sh (a.map encA))=some (.int .i64 (↑a.length))from len_map _)<|.yes (show(decide ((↑i:Int)<(↑a.length:Int)))=true from decide_eq_true (by omega))<|.tt<|.len (show lenA false (.sl .sh (b.map encA))=some (.int .i64 (↑b.length))from len_map _)<|.no (show(decide ((↑b.length:Int)≤(↑k:Int)))=false from decide_eq_false (by omega))<|.len (show lenA false (.sl .sh (a.map encA))=some (.int .i64 (↑a.length))from len_map _)<|.yes (show(decide ((↑i:Int)<(↑a.length:Int)))=true from decide_eq_true (by omega))<|.idx (show idxA 2 (.sl .sh (a.map encA)) (.int .i64 ↑i)=some (.ref [.str x.name,.int .i64 x.n])from hx)<|.load (show loadA false 1 ζ1 (.ref [.str x.name])=some (.str x.name)from rfl)<|.idx (show idxA 2 (.sl .sh (b.map encA)) (.int .i64 ↑k)=some (.ref [.str y.name,.int .i64 y.n])from hy)<|.load (show loadA false 1 ζ1 (.ref [.str y.name])=some (.str y.name)from rfl)<|.yes (show(Op.bytesLess x.name y.name)=true from(by omega))<|.idx (show idxA 2 (.sl .sh (a.map encA)) (.int .i64 ↑i)=some (.ref [.str x.name,.int .i64 x.n])from hx)<|.load (show loadA false 1 ζ1 (.ref [.str x.name])=some (.str x.name)from rfl)<|.append (show appendA (1:Nat) (16:Nat) ζ1 (rowT acc) (.sl .full [.str x.name])=some ((rowT (acc++[x.name]),rowU (acc++[x.name])))from ap _)<|.bin (show binA .add (.int .i64 ↑i) (.int .i64 1)=some (.int .i64 (↑(i+1)))from inc_i (by omega))<|.cutQ k60_0 [(0,.sl .sh (a.map encA)),(1,.sl .sh (b.map encA)),(5,rowT (acc++[x.name])),(6,.int .i64 (↑(i+1))),(7,.int .i64 ↑k)] (rowU (acc++[x.name])) (fun T hT=>(ih' T hT))) (by kernel_rfl)
    ·rw[if_neg q1]
     by_cases q2:Op.bytesLess y.name x.name=true
     ·have ih':=ih (x::pa) pb i (k+1) (by simp at hn⊢;omega) hda h2n (acc++[y.name]) (by simp at hl⊢;omega)
      rw[if_pos q2]
      rw[e0,List.append_assoc,List.singleton_append]at ih'
      exact let ζ1:Heap:=(roomH (rowU acc) (resvCells [mV 31 7,mV 32 1,⟨some 33,.len false (.t 32),none,[1]⟩,⟨some 34,.bin BinOp.geq (.t 31) (.t 33),none,[1,2,0]⟩,⟨some 35,.mov (.t 34),none,[0,2,1,3]⟩,{dst:=some (36:Nat),op:=.mov (.t 6),guard:=some ((35:Nat),false),deps:=[(3:Nat),(1:Nat),(2:Nat),(0:Nat),(4:Nat)]:AOper},{dst:=some (37:Nat),op:=.mov (.t 0),guard:=some ((35:Nat),false),deps:=[(3:Nat),(1:Nat),(2:Nat),(0:Nat),(4:Nat)]:AOper},{dst:=some (38:Nat),op:=.len false (.t 37),guard:=some ((35:Nat),false),deps:=[(4:Nat),(0:Nat),(2:Nat),(1:Nat),(3:Nat),(6:Nat)]:AOper},{dst:=some (39:Nat),op:=.bin BinOp.lss (.t 36) (.t 38),guard:=some ((35:Nat),false),deps:=[(6:Nat),(7:Nat),(4:Nat),(0:Nat),(2:Nat),(1:Nat),(3:Nat),(5:Nat)]:AOper},{dst:=some (40:Nat),op:=.mov (.t 39),guard:=some ((35:Nat),false),deps:=[(5:Nat),(3:Nat),(1:Nat),(2:Nat),(0:Nat),(4:Nat),(7:Nat),(6:Nat),(8:Nat)]:AOper},{dst:=some (41:Nat),op:=.mov (.t 0),guard:=some ((40:Nat),true),deps:=[(8:Nat),(6:Nat),(7:Nat),(4:Nat),(0:Nat),(2:Nat),(1:Nat),(3:Nat),(5:Nat),(9:Nat)]:AOper},{dst:=some (42:Nat),op:=.mov (.t 6),guard:=some ((40:Nat),true),deps:=[(8:Nat),(6:Nat),(7:Nat),(4:Nat),(0:Nat),(2:Nat),(1:Nat),(3:Nat),(5:Nat),(9:Nat)]:AOper},{dst:=some (43:Nat),op:=.idx (2:Nat) (.t 41) (.t 42),guard:=some ((40:Nat),true),deps:=[(11:Nat),(9:Nat),(5:Nat),(3:Nat),(1:Nat),(2:Nat),(0:Nat),(4:Nat),(7:Nat),(6:Nat),(8:Nat),(10:Nat)]:AOper},{dst:=some (44:Nat),op:=.fld (0:Nat) (1:Nat) (.t 43),guard:=some ((40:Nat),true),deps:=[(10:Nat),(8:Nat),(6:Nat),(7:Nat),(4:Nat),(0:Nat),(2:Nat),(1:Nat),(3:Nat),(5:Nat),(9:Nat),(11:Nat),(12:Nat)]:AOper},{dst:=some (45:Nat),op:=.load false (1:Nat) (.t 44),guard:=some ((40:Nat),true),deps:=[(12:Nat),(11:Nat),(9:Nat),(5:Nat),(3:Nat),(1:Nat),(2:Nat),(0:Nat),(4:Nat),(7:Nat),(6:Nat),(8:Nat),(10:Nat),(13:Nat)]:AOper},{dst:=some (46:Nat),op:=.mov (.t 1),guard:=some ((40:Nat),true),deps:=[(8:Nat),(6:Nat),(7:Nat),(4:Nat),(0:Nat),(2:Nat),(1:Nat),(3:Nat),(5:Nat),(9:Nat)]:AOper},{dst:=some (47:Nat),op:=.mov (.t 7),guard:=some ((40:Nat),true),deps:=[(8:Nat),(6:Nat),(7:Nat),(4:Nat),(0:Nat),(2:Nat),(1:Nat),(3:Nat),(5:Nat),(9:Nat)]:AOper},{dst:=some (48:Nat),op:=.idx (2:Nat) (.t 46) (.t 47),guard:=some ((40:Nat),true),deps:=[(16:Nat),(9:Nat),(5:Nat),(3:Nat),(1:Nat),(2:Nat),(0:Nat),(4:Nat),(7:Nat),(6:Nat),(8:Nat),(15:Nat)]:AOper},{dst:=some (49:Nat),op:=.fld (0:Nat) (1:Nat) (.t 48),guard:=some ((40:Nat),true),deps:=[(15:Nat),(8:Nat),(6:Nat),(7:Nat),(4:Nat),(0:Nat),(2:Nat),(1:Nat),(3:Nat),(5:Nat),(9:Nat),(16:Nat),(17:Nat)]:AOper},{dst:=some (50:Nat),op:=.load false (1:Nat) (.t 49),guard:=some ((40:Nat),true),deps:=[(17:Nat),(16:Nat),(9:Nat),(5:Nat),(3:Nat),(1:Nat),(2:Nat),(0:Nat),(4:Nat),(7:Nat),(6:Nat),(8:Nat),(15:Nat),(18:Nat)]:AOper},{dst:=some (51:Nat),op:=.bin BinOp.lss (.t 45) (.t 50),guard:=some ((40:Nat),true),deps:=[(18:Nat),(15:Nat),(16:Nat),(17:Nat),(19:Nat),(13:Nat),(10:Nat),(8:Nat),(6:Nat),(7:Nat),(4:Nat),(0:Nat),(2:Nat),(1:Nat),(3:Nat),(5:Nat),(9:Nat),(11:Nat),(12:Nat),(14:Nat)]:AOper},{dst:=some (52:Nat),op:=.pick (.t 40) (.t 51) (.c (.bool false)),guard:=some ((35:Nat),false),deps:=[(14:Nat),(12:Nat),(11:Nat),(10:Nat),(13:Nat),(19:Nat),(17:Nat),(16:Nat),(15:Nat),(18:Nat),(20:Nat),(8:Nat),(6:Nat),(7:Nat),(4:Nat),(0:Nat),(2:Nat),(1:Nat),(3:Nat),(5:Nat),(9:Nat)]:AOper},⟨some 53,.pick (.t 35) (.c (.bool true)) (.t 52),none,[9,5,7,6,8,20,18,15,16,17,19,13,10,11,12,14,21,3,1,2,0,4]⟩,⟨some 30,.mov (.t 53),none,[4,0,2,1,3,21,14,12,11,10,13,19,17,16,15,18,20,8,6,7,5,9,22]⟩]));let ζ2:Heap:=(roomH ζ1 (resvCells [mV 65 6,mV 66 0,⟨some 67,.len false (.t 66),none,[1]⟩,⟨some 68,.bin BinOp.geq (.t 65) (.t 67),none,[1,2,0]⟩,⟨some 69,.mov (.t 68),none,[0,2,1,3]⟩,{dst:=some (70:Nat),op:=.mov (.t 1),guard:=some ((69:Nat),false),deps:=[(3:Nat),(1:Nat),(2:Nat),(0:Nat),(4:Nat)]:AOper},{dst:=some (71:Nat),op:=.mov (.t 7),guard:=some ((69:Nat),false),deps:=[(3:Nat),(1:Nat),(2:Nat),(0:Nat),(4:Nat)]:AOper},{dst:=some (72:Nat),op:=.idx (2:Nat) (.t 70) (.t 71),guard:=some ((69:Nat),false),deps:=[(6:Nat),(4:Nat),(0:Nat),(2:Nat),(1:Nat),(3:Nat),(5:Nat)]:AOper},{dst:=some (73:Nat),op:=.fld (0:Nat) (1:Nat) (.t 72),guard:=some ((69:Nat),false),deps:=[(5:Nat),(3:Nat),(1:Nat),(2:Nat),(0:Nat),(4:Nat),(6:Nat),(7:Nat)]:AOper},{dst:=some (74:Nat),op:=.load false (1:Nat) (.t 73),guard:=some ((69:Nat),false),deps:=[(7:Nat),(6:Nat),(4:Nat),(0:Nat),(2:Nat),(1:Nat),(3:Nat),(5:Nat),(8:Nat)]:AOper},{dst:=some (75:Nat),op:=.mov (.t 0),guard:=some ((69:Nat),false),deps:=[(3:Nat),(1:Nat),(2:Nat),(0:Nat),(4:Nat)]:AOper},{dst:=some (76:Nat),op:=.mov (.t 6),guard:=some ((69:Nat),false),deps:=[(3:Nat),(1:Nat),(2:Nat),(0:Nat),(4:Nat)]:AOper},{dst:=some (77:Nat),op:=.idx (2:Nat) (.t 75) (.t 76),guard:=some ((69:Nat),false),deps:=[(11:Nat),(4:Nat),(0:Nat),(2:Nat),(1:Nat),(3:Nat),(10:Nat)]:AOper},{dst:=some (78:Nat),op:=.fld (0:Nat) (1:Nat) (.t 77),guard:=some ((69:Nat),false),deps:=[(10:Nat),(3:Nat),(1:Nat),(2:Nat),(0:Nat),(4:Nat),(11:Nat),(12:Nat)]:AOper},{dst:=some (79:Nat),op:=.load false (1:Nat) (.t 78),guard:=some ((69:Nat),false),deps:=[(12:Nat),(11:Nat),(4:Nat),(0:Nat),(2:Nat),(1:Nat),(3:Nat),(10:Nat),(13:Nat)]:AOper},{dst:=some (80:Nat),op:=.bin BinOp.lss (.t 74) (.t 79),guard:=some ((69:Nat),false),deps:=[(13:Nat),(10:Nat),(11:Nat),(12:Nat),(14:Nat),(8:Nat),(5:Nat),(3:Nat),(1:Nat),(2:Nat),(0:Nat),(4:Nat),(6:Nat),(7:Nat),(9:Nat)]:AOper},⟨some 81,.pick (.t 69) (.c (.bool true)) (.t 80),none,[9,7,6,5,8,14,12,11,10,13,15,3,1,2,0,4]⟩,⟨some 64,.mov (.t 81),none,[4,0,2,1,3,15,13,10,11,12,14,8,5,6,7,9,16]⟩]));goG 120 _ hT (.len (show lenA false (.sl .sh (a.map encA))=some (.int .i64 (↑a.length))from len_map _)<|.yes (show(decide ((↑i:Int)<(↑a.length:Int)))=true from decide_eq_true (by omega))<|.tt<|.len (show lenA false (.sl .sh (b.map encA))=some (.int .i64 (↑b.length))from len_map _)<|.no (show(decide ((↑b.length:Int)≤(↑k:Int)))=false from decide_eq_false (by omega))<|.len (show lenA false (.sl .sh (a.map encA))=some (.int .i64 (↑a.length))from len_map _)<|.yes (show(decide ((↑i:Int)<(↑a.length:Int)))=true from decide_eq_true (by omega))<|.idx (show idxA 2 (.sl .sh (a.map encA)) (.int .i64 ↑i)=some (.ref [.str x.name,.int .i64 x.n])from hx)<|.load (show loadA false 1 ζ1 (.ref [.str x.name])=some (.str x.name)from rfl)<|.idx (show idxA 2 (.sl .sh (b.map encA)) (.int .i64 ↑k)=some (.ref [.str y.name,.int .i64 y.n])from hy)<|.load (show loadA false 1 ζ1 (.ref [.str y.name])=some (.str y.name)from rfl)<|.no (show(Op.bytesLess x.name y.name)=false from Bool.eq_false_iff.2 (by omega))<|.len (show lenA false (.sl .sh (a.map encA))=some (.int .i64 (↑a.length))from len_map _)<|.no (show(decide ((↑a.length:Int)≤(↑i:Int)))=false from decide_eq_false (by omega))<|.idx (show idxA 2 (.sl .sh (b.map encA)) (.int .i64 ↑k)=some (.ref [.str y.name,.int .i64 y.n])from hy)<|.load (show loadA false 1 ζ2 (.ref [.str y.name])=some (.str y.name)from rfl)<|.idx (show idxA 2 (.sl .sh (a.map encA)) (.int .i64 ↑i)=some (.ref [.str x.name,.int .i64 x.n])from hx)<|.load (show loadA false 1 ζ2 (.ref [.str x.name])=some (.str x.name)from rfl)<|.yes (show(Op.bytesLess y.name x.name)=true from(by omega))<|.idx (show idxA 2 (.sl .sh (b.map encA)) (.int .i64 ↑k)=some (.ref [.str y.name,.int .i64 y.n])from hy)<|.load (show loadA false 1 ζ2 (.ref [.str y.name])=some (.str y.name)from rfl)<|.append (show appendA (1:Nat) (16:Nat) ζ2 (rowT acc) (.sl .full [.str y.name])=some ((rowT (acc++[y.name]),rowU (acc++[y.name])))from ap _)<|.bin (show binA .add (.int .i64 ↑k) (.int .i64 1)=some (.int .i64 (↑(k+(1:Nat)):Int))from inc_i (by omega))<|.cutQ k60_0 [(0,.sl .sh (a.map encA)),(1,.sl .sh (b.map encA)),(5,rowT (acc++[y.name])),(6,.int .i64 ↑i),(7,.int .i64 (↑(k+(1:Nat)):Int))] (rowU (acc++[y.name])) (fun T hT=>(ih' T hT))) (by kernel_rfl)
     ·have ih':=ih pa pb (i+1) (k+1) (by simp at hn⊢;omega) h1n h2n (acc++[x.name]) (by simp at hl⊢;omega)
      rw[if_neg q2]
      rw[List.append_assoc,List.singleton_append]at ih'
      exact let ζ1:Heap:=(roomH (rowU acc) (resvCells [mV 31 7,mV 32 1,⟨some 33,.len false (.t 32),none,[1]⟩,⟨some 34,.bin BinOp.geq (.t 31) (.t 33),none,[1,2,0]⟩,⟨some 35,.mov (.t 34),none,[0,2,1,3]⟩,{dst:=some (36:Nat),op:=.mov (.t 6),guard:=some ((35:Nat),false),deps:=[(3:Nat),(1:Nat),(2:Nat),(0:Nat),(4:Nat)]:AOper},{dst:=some (37:Nat),op:=.mov (.t 0),guard:=some ((35:Nat),false),deps:=[(3:Nat),(1:Nat),(2:Nat),(0:Nat),(4:Nat)]:AOper},{dst:=some (38:Nat),op:=.len false (.t 37),guard:=some ((35:Nat),false),deps:=[(4:Nat),(0:Nat),(2:Nat),(1:Nat),(3:Nat),(6:Nat)]:AOper},{dst:=some (39:Nat),op:=.bin BinOp.lss (.t 36) (.t 38),guard:=some ((35:Nat),false),deps:=[(6:Nat),(7:Nat),(4:Nat),(0:Nat),(2:Nat),(1:Nat),(3:Nat),(5:Nat)]:AOper},{dst:=some (40:Nat),op:=.mov (.t 39),guard:=some ((35:Nat),false),deps:=[(5:Nat),(3:Nat),(1:Nat),(2:Nat),(0:Nat),(4:Nat),(7:Nat),(6:Nat),(8:Nat)]:AOper},{dst:=some (41:Nat),op:=.mov (.t 0),guard:=some ((40:Nat),true),deps:=[(8:Nat),(6:Nat),(7:Nat),(4:Nat),(0:Nat),(2:Nat),(1:Nat),(3:Nat),(5:Nat),(9:Nat)]:AOper},{dst:=some (42:Nat),op:=.mov (.t 6),guard:=some ((40:Nat),true),deps:=[(8:Nat),(6:Nat),(7:Nat),(4:Nat),(0:Nat),(2:Nat),(1:Nat),(3:Nat),(5:Nat),(9:Nat)]:AOper},{dst:=some (43:Nat),op:=.idx (2:Nat) (.t 41) (.t 42),guard:=some ((40:Nat),true),deps:=[(11:Nat),(9:Nat),(5:Nat),(3:Nat),(1:Nat),(2:Nat),(0:Nat),(4:Nat),(7:Nat),(6:Nat),(8:Nat),(10:Nat)]:AOper},{dst:=some (44:Nat),op:=.fld (0:Nat) (1:Nat) (.t 43),guard:=some ((40:Nat),true),deps:=[(10:Nat),(8:Nat),(6:Nat),(7:Nat),(4:Nat),(0:Nat),(2:Nat),(1:Nat),(3:Nat),(5:Nat),(9:Nat),(11:Nat),(12:Nat)]:AOper},{dst:=some (45:Nat),op:=.load false (1:Nat) (.t 44),guard:=some ((40:Nat),true),deps:=[(12:Nat),(11:Nat),(9:Nat),(5:Nat),(3:Nat),(1:Nat),(2:Nat),(0:Nat),(4:Nat),(7:Nat),(6:Nat),(8:Nat),(10:Nat),(13:Nat)]:AOper},{dst:=some (46:Nat),op:=.mov (.t 1),guard:=some ((40:Nat),true),deps:=[(8:Nat),(6:Nat),(7:Nat),(4:Nat),(0:Nat),(2:Nat),(1:Nat),(3:Nat),(5:Nat),(9:Nat)]:AOper},{dst:=some (47:Nat),op:=.mov (.t 7),guard:=some ((40:Nat),true),deps:=[(8:Nat),(6:Nat),(7:Nat),(4:Nat),(0:Nat),(2:Nat),(1:Nat),(3:Nat),(5:Nat),(9:Nat)]:AOper},{dst:=some (48:Nat),op:=.idx (2:Nat) (.t 46) (.t 47),guard:=some ((40:Nat),true),deps:=[(16:Nat),(9:Nat),(5:Nat),(3:Nat),(1:Nat),(2:Nat),(0:Nat),(4:Nat),(7:Nat),(6:Nat),(8:Nat),(15:Nat)]:AOper},{dst:=some (49:Nat),op:=.fld (0:Nat) (1:Nat) (.t 48),guard:=some ((40:Nat),true),deps:=[(15:Nat),(8:Nat),(6:Nat),(7:Nat),(4:Nat),(0:Nat),(2:Nat),(1:Nat),(3:Nat),(5:Nat),(9:Nat),(16:Nat),(17:Nat)]:AOper},{dst:=some (50:Nat),op:=.load false (1:Nat) (.t 49),guard:=some ((40:Nat),true),deps:=[(17:Nat),(16:Nat),(9:Nat),(5:Nat),(3:Nat),(1:Nat),(2:Nat),(0:Nat),(4:Nat),(7:Nat),(6:Nat),(8:Nat),(15:Nat),(18:Nat)]:AOper},{dst:=some (51:Nat),op:=.bin BinOp.lss (.t 45) (.t 50),guard:=some ((40:Nat),true),deps:=[(18:Nat),(15:Nat),(16:Nat),(17:Nat),(19:Nat),(13:Nat),(10:Nat),(8:Nat),(6:Nat),(7:Nat),(4:Nat),(0:Nat),(2:Nat),(1:Nat),(3:Nat),(5:Nat),(9:Nat),(11:Nat),(12:Nat),(14:Nat)]:AOper},{dst:=some (52:Nat),op:=.pick (.t 40) (.t 51) (.c (.bool false)),guard:=some ((35:Nat),false),deps:=[(14:Nat),(12:Nat),(11:Nat),(10:Nat),(13:Nat),(19:Nat),(17:Nat),(16:Nat),(15:Nat),(18:Nat),(20:Nat),(8:Nat),(6:Nat),(7:Nat),(4:Nat),(0:Nat),(2:Nat),(1:Nat),(3:Nat),(5:Nat),(9:Nat)]:AOper},⟨some 53,.pick (.t 35) (.c (.bool true)) (.t 52),none,[9,5,7,6,8,20,18,15,16,17,19,13,10,11,12,14,21,3,1,2,0,4]⟩,⟨some 30,.mov (.t 53),none,[4,0,2,1,3,21,14,12,11,10,13,19,17,16,15,18,20,8,6,7,5,9,22]⟩]));let ζ2:Heap:=(roomH ζ1 (resvCells [mV 65 6,mV 66 0,⟨some 67,.len false (.t 66),none,[1]⟩,⟨some 68,.bin BinOp.geq (.t 65) (.t 67),none,[1,2,0]⟩,⟨some 69,.mov (.t 68),none,[0,2,1,3]⟩,{dst:=some (70:Nat),op:=.mov (.t 1),guard:=some ((69:Nat),false),deps:=[(3:Nat),(1:Nat),(2:Nat),(0:Nat),(4:Nat)]:AOper},{dst:=some (71:Nat),op:=.mov (.t 7),guard:=some ((69:Nat),false),deps:=[(3:Nat),(1:Nat),(2:Nat),(0:Nat),(4:Nat)]:AOper},{dst:=some (72:Nat),op:=.idx (2:Nat) (.t 70) (.t 71),guard:=some ((69:Nat),false),deps:=[(6:Nat),(4:Nat),(0:Nat),(2:Nat),(1:Nat),(3:Nat),(5:Nat)]:AOper},{dst:=some (73:Nat),op:=.fld (0:Nat) (1:Nat) (.t 72),guard:=some ((69:Nat),false),deps:=[(5:Nat),(3:Nat),(1:Nat),(2:Nat),(0:Nat),(4:Nat),(6:Nat),(7:Nat)]:AOper},{dst:=some (74:Nat),op:=.load false (1:Nat) (.t 73),guard:=some ((69:Nat),false),deps:=[(7:Nat),(6:Nat),(4:Nat),(0:Nat),(2:Nat),(1:Nat),(3:Nat),(5:Nat),(8:Nat)]:AOper},{dst:=some (75:Nat),op:=.mov (.t 0),guard:=some ((69:Nat),false),deps:=[(3:Nat),(1:Nat),(2:Nat),(0:Nat),(4:Nat)]:AOper},{dst:=some (76:Nat),op:=.mov (.t 6),guard:=some ((69:Nat),false),deps:=[(3:Nat),(1:Nat),(2:Nat),(0:Nat),(4:Nat)]:AOper},{dst:=some (77:Nat),op:=.idx (2:Nat) (.t 75) (.t 76),guard:=some ((69:Nat),false),deps:=[(11:Nat),(4:Nat),(0:Nat),(2:Nat),(1:Nat),(3:Nat),(10:Nat)]:AOper},{dst:=some (78:Nat),op:=.fld (0:Nat) (1:Nat) (.t 77),guard:=some ((69:Nat),false),deps:=[(10:Nat),(3:Nat),(1:Nat),(2:Nat),(0:Nat),(4:Nat),(11:Nat),(12:Nat)]:AOper},{dst:=some (79:Nat),op:=.load false (1:Nat) (.t 78),guard:=some ((69:Nat),false),deps:=[(12:Nat),(11:Nat),(4:Nat),(0:Nat),(2:Nat),(1:Nat),(3:Nat),(10:Nat),(13:Nat)]:AOper},{dst:=some (80:Nat),op:=.bin BinOp.lss (.t 74) (.t 79),guard:=some ((69:Nat),false),deps:=[(13:Nat),(10:Nat),(11:Nat),(12:Nat),(14:Nat),(8:Nat),(5:Nat),(3:Nat),(1:Nat),(2:Nat),(0:Nat),(4:Nat),(6:Nat),(7:Nat),(9:Nat)]:AOper},⟨some 81,.pick (.t 69) (.c (.bool true)) (.t 80),none,[9,7,6,5,8,14,12,11,10,13,15,3,1,2,0,4]⟩,⟨some 64,.mov (.t 81),none,[4,0,2,1,3,15,13,10,11,12,14,8,5,6,7,9,16]⟩]));goG 120 _ hT (.len (show lenA false (.sl .sh (a.map encA))=some (.int .i64 (↑a.length))from len_map _)<|.yes (show(decide ((↑i:Int)<(↑a.length:Int)))=true from decide_eq_true (by omega))<|.tt<|.len (show lenA false (.sl .sh (b.map encA))=some (.int .i64 (↑b.length))from len_map _)<|.no (show(decide ((↑b.length:Int)≤(↑k:Int)))=false from decide_eq_false (by omega))<|.len (show lenA false (.sl .sh (a.map encA))=some (.int .i64 (↑a.length))from len_map _)<|.yes (show(decide ((↑i:Int)<(↑a.length:Int)))=true from decide_eq_true (by omega))<|.idx (show idxA 2 (.sl .sh (a.map encA)) (.int .i64 ↑i)=some (.ref [.str x.name,.int .i64 x.n])from hx)<|.load (show loadA false 1 ζ1 (.ref [.str x.name])=some (.str x.name)from rfl)<|.idx (show idxA 2 (.sl .sh (b.map encA)) (.int .i64 ↑k)=some (.ref [.str y.name,.int .i64 y.n])from hy)<|.load (show loadA false 1 ζ1 (.ref [.str y.name])=some (.str y.name)from rfl)<|.no (show(Op.bytesLess x.name y.name)=false from Bool.eq_false_iff.2 (by omega))<|.len (show lenA false (.sl .sh (a.map encA))=some (.int .i64 (↑a.length))from len_map _)<|.no (show(decide ((↑a.length:Int)≤(↑i:Int)))=false from decide_eq_false (by omega))<|.idx (show idxA 2 (.sl .sh (b.map encA)) (.int .i64 ↑k)=some (.ref [.str y.name,.int .i64 y.n])from hy)<|.load (show loadA false 1 ζ2 (.ref [.str y.name])=some (.str y.name)from rfl)<|.idx (show idxA 2 (.sl .sh (a.map encA)) (.int .i64 ↑i)=some (.ref [.str x.name,.int .i64 x.n])from hx)<|.load (show loadA false 1 ζ2 (.ref [.str x.name])=some (.str x.name)from rfl)<|.no (show(Op.bytesLess y.name x.name)=false from Bool.eq_false_iff.2 (by omega))<|.idx (show idxA 2 (.sl .sh (a.map encA)) (.int .i64 ↑i)=some (.ref [.str x.name,.int .i64 x.n])from hx)<|.load (show loadA false 1 ζ2 (.ref [.str x.name])=some (.str x.name)from rfl)<|.append (show appendA (1:Nat) (16:Nat) ζ2 (rowT acc) (.sl .full [.str x.name])=some ((rowT (acc++[x.name]),rowU (acc++[x.name])))from ap _)<|.bin (show binA .add (.int .i64 ↑i) (.int .i64 1)=some (.int .i64 (↑(i+1)))from inc_i (by omega))<|.bin (show binA .add (.int .i64 ↑k) (.int .i64 1)=some (.int .i64 (↑(k+(1:Nat)):Int))from inc_i (by omega))<|.cutQ k60_0 [(0,.sl .sh (a.map encA)),(1,.sl .sh (b.map encA)),(5,rowT (acc++[x.name])),(6,.int .i64 (↑(i+1))),(7,.int .i64 (↑(k+(1:Nat)):Int))] (rowU (acc++[x.name])) (fun T hT=>(ih' T hT))) (by kernel_rfl)
theorem names_ref(a b:List Amount)(ha:a.length≤1000)(hb:b.length≤1000):Gives cfg 60 [.sl .sh (a.map encA),.sl .sh (b.map encA)] (rowT (mergeN (nms a) (nms b))):=by
 refine Gives.run (l60 _ _) ?_
 have h:=names_ref_loop a b ha hb (a.length+b.length) a b 0 0 (Nat.le_refl _) rfl rfl [] (by simp;omega)
 rw[List.nil_append]at h
 exact goG 60 [] trivial (.cutQ k60_0 [(0,.sl .sh (a.map encA)),(1,.sl .sh (b.map encA)),(5,.sl .full []),(6,.int .i64 0),(7,.int .i64 0)] ({boxes:=[],toks:=[],loops:=[]:Heap}) (fun T hT=>(h T hT))) (by kernel_rfl)
end Go.Aa.T
set_option linter.unusedVariables false
set_option linter.unusedSimpArgs false
set_option maxRecDepth 100000
namespace Go.Aa.T
open Go.Aa Go.Proofs
def stopV(e:Int):AV:=.iface 145 (.agg [.int .i64 e])
theorem stop_ok:Gives cfg 79 [.int .i64 0] (.tuple []):=by
 refine Gives.run (l79 _ _) ?_
 exact goG 60 [] trivial (.ff<|.fin ((.ret (.tuple []),{boxes:=[],toks:=[],loops:=[]:Heap})) rfl) (by kernel_rfl)
theorem stop_pan{e:Int}(h:¬e=0):Pans cfg 79 [.int .i64 e] (stopV e):=by
 refine Pans.run (l79 _ _) ?_
 exact goG 60 [] trivial (.op (.bin .neq (.c (.int .i64 e)) (.c (.int .i64 0))) (.bool true) (pure_step (fun _=>neqT (k:=.i64) h) fun _ _ _=>rfl)<|.tt<|.panicI 145 (.agg [.int .i64 e]) Heap.nil rfl) (by kernel_rfl)
def skF{X:Type}:List X→SK
 |[]=>.full
 |_::_=>.own 0
instance{X:Type}(l:List X)(xs:List AV):Shut (.sl (skF l) xs) (.sl .sh xs):=⟨by cases l<;>exact⟨rfl,rfl⟩⟩
section
variable{X:Type}(enc:X→AV)
def tkR(acc:List X):List Nat:=(rowH Heap.nil (acc.map enc)).toks
theorem tk_cons(x:X)(l:List X):tkR enc (x::l)=[l.length+1]:=by simp[tkR,rowH,Heap.nil]
def rowF(l:List X):AV:=.sl (skF l) (l.map enc)
instance(l:List X):Shut (rowF enc l) (.sl .sh (l.map enc)):=⟨by cases l<;>exact⟨rfl,rfl⟩⟩
theorem rowF_eq(l:List X):rowF enc l=rowS Heap.nil (l.map enc):=by cases l<;>rfl
theorem row_append_T{x:X}{es bytes:Nat}{bs:List (List AV)}{ls:List LRec}{ys:List X}(h:((ys.map enc).length+1)*bytes≤140737488355328)(hl:lenOk es (ys.map enc)=true)(hv:cellsN es (enc x)=true)(hd:dataOk [enc x]=true):
 appendA es bytes ⟨bs,tkR enc ys,ls⟩ (rowF enc ys) (.sl .full [enc x])=some (rowF enc (ys++[x]),⟨bs,tkR enc (ys++[x]),ls⟩):=by
 rw[rowF_eq,rowF_eq]
 have hh:=row_append_map (f:=enc) (x:=x) (H:=Heap.nil) h hl hv hd
 cases ys with
 |nil=>
  simp only[rowS,rowH,List.map_nil,List.nil_append,List.map_cons,tkR,Heap.nil]at hh⊢
  simp only[appendA]at hh⊢
  split at hh
  ·rename_i hc;rw[if_pos hc];rfl
  ·cases hh
 |cons y ys=>
  simp only[rowS,rowH,List.cons_append,List.map_cons,tkR,Heap.nil]at hh⊢
  simp only[appendA]at hh⊢
  split at hh
  ·rename_i hc
   rw[if_pos hc]
   split at hh
   ·rename_i hc2
    rw[if_pos hc2]
    simp only[Option.some.injEq,Prod.mk.injEq,Heap.mk.injEq,true_and,and_true]at hh⊢
    exact hh
   ·cases hh
  ·cases hh
end
end Go.Aa.T
set_option linter.unusedVariables false
set_option linter.unusedSimpArgs false
set_option maxRecDepth 100000
namespace Go.Aa.T
open Go.Aa Go.Proofs
abbrev OfQ:=List UInt8→Int×Int
def madeF(g:OfQ):List (List UInt8)→List Amount→List Amount×Int
 |[],acc=>(acc,0)
 |s::r,acc=>if(g s).2=0 then madeF g r (if 0<(g s).1 then acc++[⟨s,(g s).1⟩]else acc)else([],(g s).2)
def finV(p:List Amount×Int):List Amount×Int:=if p.2=0 then(if 8<p.1.length then([],4)else(p.1,0))else([],p.2)
def madeV(g:OfQ)(vs:List (List Amount)):List Amount×Int:=
 if firstE (vs.map ckV)=0 then finV (madeF g (namesOf (allNames vs)) [])else([],firstE (vs.map ckV))
theorem trunc_self{v:AV}{H:Heap}:trunc H.boxes.length H.toks.length v H=H:=by
 unfold trunc
 have e1:∀(b:Bool),(if b=true then H.boxes.take H.boxes.length else H.boxes)=H.boxes:=fun b=>by
  split
  ·exact List.take_of_length_le (Nat.le_refl _)
  ·rfl
 have e2:∀(b:Bool),(if b=true then H.toks.take H.toks.length else H.toks)=H.toks:=fun b=>by
  split
  ·exact List.take_of_length_le (Nat.le_refl _)
  ·rfl
 simp only[e1,e2]
theorem trunc_keep{v:AV}{bs:List (List AV)}{tk:List Nat}{nb nt:Nat}(h:bs.length=nb)(h2:bs.all (·.all (in2 bs.length nt))=false):trunc nb nt v ⟨bs,tk,[]⟩=⟨bs,tk,[]⟩:=by
 unfold trunc
 have e1:∀(b:Bool),(if b=true then bs.take nb else bs)=bs:=fun b=>by
  split
  ·exact List.take_of_length_le (by omega)
  ·rfl
 simp only[e1,h2,Bool.and_false,Bool.false_eq_true,if_false]
section
variable(g:OfQ)(f:FuncId)(x0 x1:AV)(vs:List (List Amount))
def hMd(acc:List Amount):Heap:=⟨[[x0],[x1],[.func f [.ptr 0 0,.ptr 1 0]],[.sl .sh (vs.map encV)],[rowF encA acc]],tkR encA acc,[]⟩
def MadeR(p:List Amount×Int)(r:ARes×Heap):Prop:=(p.2=0∧r=(.ret (.tuple []),hMd f x0 x1 vs p.1))∨(p.2≠0∧r.1=.pan (stopV p.2))
theorem made_loop2(hof:∀s(B:List (List AV))(tk:List Nat),Does cfg (.call (.c (.func f [.ptr 0 0,.ptr 1 0])) [.c (.str s)]) ⟨[x0]::[x1]::B,tk,[]⟩ (.tuple [.int .i64 (g s).1,.int .i64 (g s).2]) ⟨[x0]::[x1]::B,tk,[]⟩)
 (ns:List (List UInt8))(hns:ns.length≤100000):∀(post:List (List UInt8))(i:Nat)(hd:ns.drop i=post)(acc:List Amount)(ha:acc.length≤i)(T:Env)
 (hT:Has T [(2,.ptr 4 0),(1,.ptr 2 0),(20,.sl .sh (ns.map .str)),(21,.int .i64 ns.length),(22,.int .i64 i)]),
 Goes cfg a98 k98_1 T (hMd f x0 x1 vs acc) (MadeR f x0 x1 vs (finV (madeF g post acc))):=by
 intro post
 induction post with
 |nil=>
  intro i hd acc ha T hT
  have hge:=drop_ge hd
  have hs:Pans cfg 79 [.int .i64 4] (stopV 4):=stop_pan (by decide)
  have e:madeF g [] acc=(acc,0):=rfl
  rw[e]
  by_cases h8:8<acc.length
  ·have e:finV (acc,0)=([],4):=by simp[finV,h8]
   rw[e]
   exact goG 90 _ hT (.no (show(decide ((↑i:Int)<(↑ns.length:Int)))=false from decide_eq_false (by omega))<|.len (show lenA false (.sl (skF acc) (acc.map encA))=some (.int .i64 (↑acc.length))from len_map _)<|.yes (show(decide ((8:Int)<(↑acc.length:Int)))=true from decide_eq_true (by omega))<|.callP ([.int .i64 4]) ({boxes:=[[x0],[x1],[.func f [.ptr 0 0,.ptr 1 0]],[.sl .sh (vs.map encV)],[.sl (skF acc) (acc.map encA)]],toks:=tkR encA acc,loops:=[]:Heap}) (show Pans cfg (79:FuncId) [.int .i64 4] (stopV (4:Int))from hs) ⟨rfl,rfl⟩ rfl (by exact .inr ⟨by decide,rfl⟩)) (by kernel_rfl)
  ·have e:finV (acc,0)=(acc,0):=by simp[finV,h8]
   rw[e]
   exact goG 90 _ hT (.no (show(decide ((↑i:Int)<(↑ns.length:Int)))=false from decide_eq_false (by omega))<|.len (show lenA false (.sl (skF acc) (acc.map encA))=some (.int .i64 (↑acc.length))from len_map _)<|.no (show(decide ((8:Int)<(↑acc.length:Int)))=false from decide_eq_false (by omega))<|.fin ((.ret (.tuple []),{boxes:=[[x0],[x1],[.func f [.ptr 0 0,.ptr 1 0]],[.sl .sh (vs.map encV)],[.sl (skF acc) (acc.map encA)]],toks:=tkR encA acc,loops:=[]:Heap})) (by exact .inl ⟨rfl,rfl⟩)) (by kernel_rfl)
 |cons s post ih=>
  intro i hd acc ha T hT
  have hlt:=drop_lt hd
  have hnx:=drop_next hd
  have hx:idxA 1 (.sl .sh (ns.map .str)) (.int .i64 (i:Nat))=some (.ref [.str s]):=idx_row (f:=AV.str) hd rfl
  have hf:=hof s
  have e:madeF g (s::post) acc=if(g s).2=0 then madeF g post (if 0<(g s).1 then acc++[⟨s,(g s).1⟩]else acc)else([],(g s).2):=rfl
  rw[e]
  by_cases h0:(g s).2=0
  ·rw[if_pos h0]
   rw[h0]at hf
   by_cases hp:0<(g s).1
   ·rw[if_pos hp]
    have ih':=ih (i+1) hnx (acc++[⟨s,(g s).1⟩]) (by simp;omega)
    generalize(g s).1=n at hf hp ih'⊢
    have ap:∀bs ls,appendA 2 24 ⟨bs,tkR encA acc,ls⟩ (rowF encA acc) (.sl .full [.agg [.str s,.int .i64 n]])=some (rowF encA (acc++[⟨s,n⟩]),⟨bs,tkR encA (acc++[⟨s,n⟩]),ls⟩):=fun bs ls=>
     row_append_T encA (x:=⟨s,n⟩) (by simp;omega) lenA2 rfl rfl
    exact let ζ1:Heap:={boxes:=[[x0],[x1],[.func f [.ptr 0 0,.ptr 1 0]],[.sl .sh (vs.map encV)],[.sl (skF acc) (acc.map encA)]],toks:=tkR encA acc,loops:=[]:Heap};goG 120 _ hT (.yes (show(decide ((↑i:Int)<(↑ns.length:Int)))=true from decide_eq_true (by omega))<|.idx (show idxA 1 (.sl .sh (List.map .str ns)) (.int .i64 ↑i)=some (.ref [.str s])from hx)<|.effY (show Does cfg (.call (.c (.func f [.ptr 0 0,.ptr 1 0])) [.c (.str s)]) ζ1 (.tuple [.int .i64 n,.int .i64 0]) ζ1 from hf _ _)<|.callI stop_ok<|.yes (show(decide ((0:Int)<n))=true from decide_eq_true (by exact hp))<|.append (show appendA (2:Nat) (24:Nat) ζ1 (.sl (skF acc) (acc.map encA)) (.sl .full [.agg [.str s,.int .i64 n]])=some ((rowF encA (acc++[{name:=s,n:=n:Amount}]),{boxes:=[[x0],[x1],[.func f [.ptr 0 0,.ptr 1 0]],[.sl .sh (vs.map encV)],[.sl (skF acc) (acc.map encA)]],toks:=tkR encA (acc++[{name:=s,n:=n:Amount}]),loops:=[]:Heap}))from ap _ _)<|.bin (show binA .add (.int .i64 ↑i) (.int .i64 1)=some (.int .i64 (↑(i+1)))from inc_i (by omega))<|.cutQ k98_1 [(2,.ptr 4 0),(1,.ptr 2 0),(20,.sl .sh (List.map .str ns)),(21,.int .i64 (↑ns.length)),(22,.int .i64 (↑(i+1)))] ({boxes:=[[x0],[x1],[.func f [.ptr 0 0,.ptr 1 0]],[.sl .sh (vs.map encV)],[.sl (skF (acc++[{name:=s,n:=n:Amount}])) (List.map encA (acc++[{name:=s,n:=n:Amount}]))]],toks:=tkR encA (acc++[{name:=s,n:=n:Amount}]),loops:=[]:Heap}) (fun T hT=>(ih' T hT))) (by kernel_rfl)
   ·rw[if_neg hp]
    have ih':=ih (i+1) hnx acc (by omega)
    generalize(g s).1=n at hf hp ih'⊢
    exact let ζ1:Heap:={boxes:=[[x0],[x1],[.func f [.ptr 0 0,.ptr 1 0]],[.sl .sh (vs.map encV)],[.sl (skF acc) (acc.map encA)]],toks:=tkR encA acc,loops:=[]:Heap};goG 120 _ hT (.yes (show(decide ((↑i:Int)<(↑ns.length:Int)))=true from decide_eq_true (by omega))<|.idx (show idxA 1 (.sl .sh (List.map .str ns)) (.int .i64 ↑i)=some (.ref [.str s])from hx)<|.effY (show Does cfg (.call (.c (.func f [.ptr 0 0,.ptr 1 0])) [.c (.str s)]) ζ1 (.tuple [.int .i64 n,.int .i64 0]) ζ1 from hf _ _)<|.callI stop_ok<|.no (show(decide ((0:Int)<n))=false from decide_eq_false (by exact hp))<|.bin (show binA .add (.int .i64 ↑i) (.int .i64 1)=some (.int .i64 (↑(i+1)))from inc_i (by omega))<|.cutQ k98_1 [(2,.ptr 4 0),(1,.ptr 2 0),(20,.sl .sh (List.map .str ns)),(21,.int .i64 (↑ns.length)),(22,.int .i64 (↑(i+1)))] (ζ1) (fun T hT=>(ih' T hT))) (by kernel_rfl)
  ·rw[if_neg h0]
   have hst:=stop_pan h0
   have e:finV ([],(g s).2)=([],(g s).2):=by simp[finV,h0]
   rw[e]
   generalize(g s).2=e at hf h0 hst⊢
   exact let ζ1:Heap:={boxes:=[[x0],[x1],[.func f [.ptr 0 0,.ptr 1 0]],[.sl .sh (vs.map encV)],[.sl (skF acc) (acc.map encA)]],toks:=tkR encA acc,loops:=[]:Heap};goG 120 _ hT (.yes (show(decide ((↑i:Int)<(↑ns.length:Int)))=true from decide_eq_true (by omega))<|.idx (show idxA 1 (.sl .sh (List.map .str ns)) (.int .i64 ↑i)=some (.ref [.str s])from hx)<|.effY (show Does cfg (.call (.c (.func f [.ptr 0 0,.ptr 1 0])) [.c (.str s)]) ζ1 (.tuple [.int .i64 (g s).fst,.int .i64 e]) ζ1 from hf _ _)<|.callP ([.int .i64 e]) (ζ1) (show Pans cfg (79:FuncId) [.int .i64 e] (stopV e)from hst) ⟨rfl,rfl⟩ rfl (by exact .inr ⟨h0,rfl⟩)) (by kernel_rfl)
theorem made_loop1(hof:∀s(B:List (List AV))(tk:List Nat),Does cfg (.call (.c (.func f [.ptr 0 0,.ptr 1 0])) [.c (.str s)]) ⟨[x0]::[x1]::B,tk,[]⟩ (.tuple [.int .i64 (g s).1,.int .i64 (g s).2]) ⟨[x0]::[x1]::B,tk,[]⟩)
 (hv:vs.length≤100):∀(post:List (List Amount))(i:Nat)(hd:vs.drop i=post)(hp:∀v∈vs.take i,ckV v=0)(T:Env)
 (hT:Has T [(0,.ptr 3 0),(1,.ptr 2 0),(2,.ptr 4 0),(9,.sl .sh (vs.map encV)),(10,.int .i64 vs.length),(11,.int .i64 i)]),
 Goes cfg a98 k98_0 T (hMd f x0 x1 vs []) (MadeR f x0 x1 vs (if firstE (post.map ckV)=0 then finV (madeF g (namesOf (allNames vs)) [])else([],firstE (post.map ckV)))):=by
 intro post
 induction post with
 |nil=>
  intro i hd hp T hT
  have hge:=drop_ge hd
  have hall:∀v∈vs,v.length≤100:=fun v hm=>by
   have:=hp v (by rw[List.take_of_length_le hge];exact hm)
   unfold ckV at this
   split at this
   ·omega
   ·cases this
  have hn:=names_any vs hv hall
  have hnl:(namesOf (allNames vs)).length≤10000:=by
   have h1:(namesOf (allNames vs)).length≤(allNames vs).length:=by
    unfold namesOf
    exact Nat.le_trans (uq_len _) (Nat.le_of_eq (isort_length _))
   have h2:∀(l:List (List Amount)),(∀v∈l,v.length≤100)→(allNames l).length≤100*l.length:=by
    intro l
    induction l with
    |nil=>intro _;simp[allNames]
    |cons v l ih=>
     intro h
     have:=ih fun w hw=>h w (by simp[hw])
     have h3:=h v (by simp)
     rw[allNames_cons,List.length_append,List.length_map,List.length_cons]
     omega
   have:=h2 vs hall
   omega
  have hn:=does_callF (xs:=[.sl .sh (vs.map encV)]) hn rfl rfl (hMd f x0 x1 vs [])
  have h2:=made_loop2 g f x0 x1 vs hof (namesOf (allNames vs)) (by omega) (namesOf (allNames vs)) 0 rfl [] (by simp)
  have e:(if firstE (([]:List (List Amount)).map ckV)=0 then finV (madeF g (namesOf (allNames vs)) [])else([],firstE (([]:List (List Amount)).map ckV)))=finV (madeF g (namesOf (allNames vs)) []):=rfl
  rw[e]
  generalize namesOf (allNames vs)=ns at hn h2 hnl⊢
  exact goG 90 _ hT (.no (show(decide ((↑i:Int)<(↑vs.length:Int)))=false from decide_eq_false (by omega))<|.effY (show Does cfg (.call (.c (.func (99:FuncId) [])) (List.map .c [.sl .sh (vs.map encV)])) (hMd f x0 x1 vs []) (.sl .sh (List.map .str ns)) (hMd f x0 x1 vs [])from hn)<|.len (show lenA false (.sl .sh (List.map .str ns))=some (.int .i64 (↑ns.length))from len_map _)<|.cutQ k98_1 [(2,.ptr 4 0),(1,.ptr 2 0),(20,.sl .sh (List.map .str ns)),(21,.int .i64 (↑ns.length)),(22,.int .i64 0)] ({boxes:=[[x0],[x1],[.func f [.ptr 0 0,.ptr 1 0]],[.sl .sh (vs.map encV)],[.sl .full []]],toks:=[],loops:=[]:Heap}) (fun T hT=>(h2 T hT))) (by kernel_rfl)
 |cons v post ih=>
  intro i hd hp T hT
  have hlt:=drop_lt hd
  have hnx:=drop_next hd
  have hx:idxA 1 (.sl .sh (vs.map encV)) (.int .i64 (i:Nat))=some (.ref [encV v]):=idx_row (f:=encV) hd rfl
  have hc:=ckV_any v
  by_cases h0:ckV v=0
  ·have e:firstE ((v::post).map ckV)=firstE (post.map ckV):=by simp[firstE,h0]
   rw[e]
   rw[h0]at hc
   have ih':=ih (i+1) hnx (fun w hw=>by
    rw[drop_take hd,List.mem_append]at hw
    rcases hw with hw|hw
    ·exact hp w hw
    ·rw[List.mem_singleton.1 hw];exact h0)
   exact goG 90 _ hT (.yes (show(decide ((↑i:Int)<(↑vs.length:Int)))=true from decide_eq_true (by omega))<|.idx (show idxA 1 (.sl .sh (vs.map encV)) (.int .i64 ↑i)=some (.ref [encV v])from hx)<|.callI hc<|.callI stop_ok<|.bin (show binA .add (.int .i64 ↑i) (.int .i64 1)=some (.int .i64 (↑(i+1)))from inc_i (by omega))<|.cutQ k98_0 [(0,.ptr 3 0),(1,.ptr 2 0),(2,.ptr 4 0),(9,.sl .sh (vs.map encV)),(10,.int .i64 (↑vs.length)),(11,.int .i64 (↑(i+1)))] ({boxes:=[[x0],[x1],[.func f [.ptr 0 0,.ptr 1 0]],[.sl .sh (vs.map encV)],[.sl .full []]],toks:=[],loops:=[]:Heap}) (fun T hT=>(ih' T hT))) (by kernel_rfl)
  ·have e:firstE ((v::post).map ckV)=ckV v:=by simp[firstE,h0]
   rw[e,if_neg h0]
   have hst:=stop_pan h0
   generalize ckV v=c at hc h0 hst⊢
   exact goG 90 _ hT (.yes (show(decide ((↑i:Int)<(↑vs.length:Int)))=true from decide_eq_true (by omega))<|.idx (show idxA 1 (.sl .sh (vs.map encV)) (.int .i64 ↑i)=some (.ref [encV v])from hx)<|.callI hc<|.callP ([.int .i64 c]) ({boxes:=[[x0],[x1],[.func f [.ptr 0 0,.ptr 1 0]],[.sl .sh (vs.map encV)],[.sl .full []]],toks:=[],loops:=[]:Heap}) (show Pans cfg (79:FuncId) [.int .i64 c] (stopV c)from hst) ⟨rfl,rfl⟩ rfl (by exact .inr ⟨h0,rfl⟩)) (by kernel_rfl)
theorem made_any(hof:∀s(B:List (List AV))(tk:List Nat),Does cfg (.call (.c (.func f [.ptr 0 0,.ptr 1 0])) [.c (.str s)]) ⟨[x0]::[x1]::B,tk,[]⟩ (.tuple [.int .i64 (g s).1,.int .i64 (g s).2]) ⟨[x0]::[x1]::B,tk,[]⟩)
 (hv:vs.length≤100)(hx:data0 x0=true∧data0 x1=true):∃H',Does cfg (.call (.c (.func 56 [])) [.c (.func f [.ptr 0 0,.ptr 1 0]),.c (.sl .sh (vs.map encV))]) ⟨[[x0],[x1]],[],[]⟩ (.tuple [.sl .sh ((madeV g vs).1.map encA),.int .i64 (madeV g vs).2]) H':=by
 have h1:=made_loop1 g f x0 x1 vs hof hv vs 0 rfl (by simp)
 have key:Goes cfg a98 [.c c98] (initEnv [.ptr 3 0,.ptr 2 0,.ptr 4 0]) (hMd f x0 x1 vs []) (MadeR f x0 x1 vs (madeV g vs)):=by
  exact goG 60 [] trivial (.len (show lenA false (.sl .sh (vs.map encV))=some (.int .i64 (↑vs.length))from len_map _)<|.cutQ k98_0 [(0,.ptr 3 0),(1,.ptr 2 0),(2,.ptr 4 0),(9,.sl .sh (vs.map encV)),(10,.int .i64 (↑vs.length)),(11,.int .i64 0)] ({boxes:=[[x0],[x1],[.func f [.ptr 0 0,.ptr 1 0]],[.sl .sh (vs.map encV)],[.sl .full []]],toks:=[],loops:=[]:Heap}) (fun T hT=>(h1 T hT))) (by kernel_rfl)
 obtain⟨⟨a,H1⟩,hr,hR⟩:=key
 have hin:∀nb nt,in2 nb nt x0=true∧in2 nb nt x1=true:=fun nb nt=>⟨in2_data0 hx.1,in2_data0 hx.2⟩
 rcases hR with⟨he,hR⟩|⟨he,hR⟩
 ·simp only[Prod.mk.injEq]at hR
  obtain⟨rfl,rfl⟩:=hR
  have ht:lim cfg (.fn 74) [.func 98 [.ptr 3 0,.ptr 2 0,.ptr 4 0]] (hMd f x0 x1 vs [])=some (.ret (.int .i64 0),hMd f x0 x1 vs (madeV g vs).1):=by
   rw[lim_try rfl,l98,hr];rfl
  have hd:Does cfg (.call (.c (.func 74 [])) [.c (.func 98 [.ptr 3 0,.ptr 2 0,.ptr 4 0])]) (hMd f x0 x1 vs []) (.int .i64 0) (hMd f x0 x1 vs (madeV g vs).1):=by
   have hd:=does_callE (xs:=[.func 98 [.ptr 3 0,.ptr 2 0,.ptr 4 0]]) (caps:=[]) ht rfl rfl
   refine Eq.mp ?_ hd
   congr 1
   generalize(madeV g vs).1=l
   show trunc 5 0 (.int .i64 0) ⟨[[x0],[x1],[.func f [.ptr 0 0,.ptr 1 0]],[.sl .sh (vs.map encV)],[rowF encA l]],tkR encA l,[]⟩=_
   cases l with
   |nil=>exact trunc_len (by rfl)
   |cons y l=>
    rw[tk_cons]
    refine(trunc_keep (by rfl) ?_).trans ?_
    ·simp[rowF,skF,in2,in1,in0]
    ·rw[←tk_cons encA y l];rfl
  rw[he]
  generalize(madeV g vs).1=l at hd⊢
  have k2:Goes cfg a56 [.c c56] (initEnv [.func f [.ptr 0 0,.ptr 1 0],.sl .sh (vs.map encV)]) ⟨[[x0],[x1]],[],[]⟩ (fun r=>r.1=.ret (.tuple [rowF encA l,.int .i64 0])):=by
   exact goG 60 [] trivial (.effY (show Does cfg (.call (.c (.func (74:FuncId) [])) [.c (.func (98:FuncId) [.ptr 3 0,.ptr 2 0,.ptr 4 0])]) (hMd f x0 x1 vs []) (.int .i64 0) (hMd f x0 x1 vs l)from hd)<|.ff<|.fin ((.ret (.tuple [.sl (skF l) (l.map encA),.int .i64 0]),{boxes:=[[x0],[x1],[.func f [.ptr 0 0,.ptr 1 0]],[.sl .sh (vs.map encV)],[.sl (skF l) (l.map encA)]],toks:=tkR encA l,loops:=[]:Heap})) rfl) (by kernel_rfl)
  obtain⟨⟨a,H2⟩,h2,h3⟩:=k2
  simp only at h3
  subst h3
  have h4:lim cfg (.fn 56) ([.func f [.ptr 0 0,.ptr 1 0],.sl .sh (vs.map encV)]++[]) ⟨[[x0],[x1]],[],[]⟩=some (.ret (.tuple [rowF encA l,.int .i64 0]),H2):=by
   rw[List.append_nil,l56];exact h2
  have hd2:=does_callE h4 rfl rfl
  have es:shutA (.tuple [rowF encA l,.int .i64 0])=.tuple [.sl .sh (l.map encA),.int .i64 0]:=by cases l<;>rfl
  rw[es]at hd2
  exact⟨_,hd2⟩
 ·simp only at hR
  subst hR
  have ht:lim cfg (.fn 74) [.func 98 [.ptr 3 0,.ptr 2 0,.ptr 4 0]] (hMd f x0 x1 vs [])=some (.ret (.int .i64 (madeV g vs).2),H1):=by
   rw[lim_try rfl,l98,hr];rfl
  have hd:=does_callE (xs:=[.func 98 [.ptr 3 0,.ptr 2 0,.ptr 4 0]]) (caps:=[]) ht rfl rfl
  generalize trunc _ _ _ H1=H2 at hd
  have e0:(madeV g vs).1=[]:=by
   unfold madeV at he⊢
   split
   ·rename_i h;rw[if_pos h]at he
    unfold finV at he⊢
    split
    ·rename_i h2;rw[if_pos h2]at he
     split
     ·rfl
     ·rename_i h3;rw[if_neg h3]at he;exact absurd rfl he
    ·rfl
   ·rfl
  rw[e0]
  generalize(madeV g vs).2=c at hd he⊢
  have k2:Goes cfg a56 [.c c56] (initEnv [.func f [.ptr 0 0,.ptr 1 0],.sl .sh (vs.map encV)]) ⟨[[x0],[x1]],[],[]⟩ (fun r=>r.1=.ret (.tuple [.sl .full [],.int .i64 c])):=by
   exact goG 60 [] trivial (.effY (show Does cfg (.call (.c (.func (74:FuncId) [])) (List.map .c [.func (98:FuncId) [.ptr 3 0,.ptr 2 0,.ptr 4 0]])) (hMd f x0 x1 vs []) (shutA (.int .i64 c)) H2 from hd)<|.yes (show(c !=(0:Int))=true from(by simpa using he))<|.fin ((.ret (.tuple [.sl .full [],.int .i64 c]),H2)) rfl) (by kernel_rfl)
  obtain⟨⟨a,H3⟩,h2,h3⟩:=k2
  simp only at h3
  subst h3
  have h4:lim cfg (.fn 56) ([.func f [.ptr 0 0,.ptr 1 0],.sl .sh (vs.map encV)]++[]) ⟨[[x0],[x1]],[],[]⟩=some (.ret (.tuple [.sl .full [],.int .i64 c]),H3):=by
   rw[List.append_nil,l56];exact h2
  have hd2:=does_callE h4 rfl rfl
  exact⟨_,hd2⟩
end
theorem add_of(a b:List Amount)(ha:a.length<9223372036854775807)(hb:b.length<9223372036854775807)(ra:∀s,inI (getQ a s))(rb:∀s,inI (getQ b s))(s:List UInt8)(B:List (List AV))(tk:List Nat):
 Does cfg (.call (.c (.func 57 [.ptr 0 0,.ptr 1 0])) [.c (.str s)]) ⟨[encV a]::[encV b]::B,tk,[]⟩ (.tuple [.int .i64 (addQ (getQ a s) (getQ b s)).1,.int .i64 (addQ (getQ a s) (getQ b s)).2]) ⟨[encV a]::[encV b]::B,tk,[]⟩:=by
 have g1:=getQ_any a s ha
 have g2:=getQ_any b s hb
 have g3:=qadd_any _ _ (ra s) (rb s)
 generalize getQ a s=p at g1 g3⊢
 generalize getQ b s=q at g2 g3⊢
 generalize addQ p q=z at g3⊢
 have key:Goes cfg a57 [.c c57] (initEnv [.str s,.ptr 0 0,.ptr 1 0]) ⟨[encV a]::[encV b]::B,tk,[]⟩ (fun r=>r=(.ret (.tuple [.int .i64 z.1,.int .i64 z.2]),⟨[encV a]::[encV b]::B,tk,[]⟩)):=by
  exact let ζ1:Heap:={boxes:=[.sl .sh (a.map encA)]::[.sl .sh (b.map encA)]::B,toks:=tk,loops:=[]:Heap};let ζ2:List AV:=[.int .i64 z.fst,.int .i64 z.snd];let ζ3:List AV:=[.sl .sh (a.map encA),.str s];let ζ4:List AV:=[.sl .sh (b.map encA),.str s];goG 60 [] trivial (.load (show loadA false 1 ζ1 (.ptr 0 0)=some (.sl .sh (a.map encA))from load_box (cs:=[.sl .sh (a.map encA)]) (by simp+zetaDelta) rfl)<|.callK (ζ3) (.int .i64 p) (show Gives cfg (36:FuncId) ζ3 (.int .i64 p)from g1)<|.load (show loadA false 1 ζ1 (.ptr 1 0)=some (.sl .sh (b.map encA))from load_box (cs:=[.sl .sh (b.map encA)]) (by simp+zetaDelta) rfl)<|.callK (ζ4) (.int .i64 q) (show Gives cfg (36:FuncId) ζ4 (.int .i64 q)from g2)<|.callI g3<|.fin ((.ret (.tuple ζ2),ζ1)) rfl) (by kernel_rfl)
 obtain⟨r,h,rfl⟩:=key
 have h2:lim cfg (.fn 57) ([.str s]++[.ptr 0 0,.ptr 1 0]) ⟨[encV a]::[encV b]::B,tk,[]⟩=some (.ret (.tuple [.int .i64 z.1,.int .i64 z.2]),⟨[encV a]::[encV b]::B,tk,[]⟩):=by
  rw[show([AV.str s]++[.ptr 0 0,.ptr 1 0])=[.str s,.ptr 0 0,.ptr 1 0]from rfl,l57];exact h
 have hd:=does_callE h2 rfl rfl
 rwa [trunc_self]at hd
theorem sub_of(a b:List Amount)(ha:a.length<9223372036854775807)(hb:b.length<9223372036854775807)(ra:∀s,inI (getQ a s))(rb:∀s,inI (getQ b s))(s:List UInt8)(B:List (List AV))(tk:List Nat):
 Does cfg (.call (.c (.func 63 [.ptr 0 0,.ptr 1 0])) [.c (.str s)]) ⟨[encV a]::[encV b]::B,tk,[]⟩ (.tuple [.int .i64 (subQ (getQ a s) (getQ b s)).1,.int .i64 (subQ (getQ a s) (getQ b s)).2]) ⟨[encV a]::[encV b]::B,tk,[]⟩:=by
 have g1:=getQ_any a s ha
 have g2:=getQ_any b s hb
 have g3:=qsub_any _ _ (ra s) (rb s)
 generalize getQ a s=p at g1 g3⊢
 generalize getQ b s=q at g2 g3⊢
 generalize subQ p q=z at g3⊢
 have key:Goes cfg a63 [.c c63] (initEnv [.str s,.ptr 0 0,.ptr 1 0]) ⟨[encV a]::[encV b]::B,tk,[]⟩ (fun r=>r=(.ret (.tuple [.int .i64 z.1,.int .i64 z.2]),⟨[encV a]::[encV b]::B,tk,[]⟩)):=by
  exact let ζ1:Heap:={boxes:=[.sl .sh (a.map encA)]::[.sl .sh (b.map encA)]::B,toks:=tk,loops:=[]:Heap};let ζ2:List AV:=[.int .i64 z.fst,.int .i64 z.snd];let ζ3:List AV:=[.sl .sh (a.map encA),.str s];let ζ4:List AV:=[.sl .sh (b.map encA),.str s];goG 60 [] trivial (.load (show loadA false 1 ζ1 (.ptr 0 0)=some (.sl .sh (a.map encA))from load_box (cs:=[.sl .sh (a.map encA)]) (by simp+zetaDelta) rfl)<|.callK (ζ3) (.int .i64 p) (show Gives cfg (36:FuncId) ζ3 (.int .i64 p)from g1)<|.load (show loadA false 1 ζ1 (.ptr 1 0)=some (.sl .sh (b.map encA))from load_box (cs:=[.sl .sh (b.map encA)]) (by simp+zetaDelta) rfl)<|.callK (ζ4) (.int .i64 q) (show Gives cfg (36:FuncId) ζ4 (.int .i64 q)from g2)<|.callI g3<|.fin ((.ret (.tuple ζ2),ζ1)) rfl) (by kernel_rfl)
 obtain⟨r,h,rfl⟩:=key
 have h2:lim cfg (.fn 63) ([.str s]++[.ptr 0 0,.ptr 1 0]) ⟨[encV a]::[encV b]::B,tk,[]⟩=some (.ret (.tuple [.int .i64 z.1,.int .i64 z.2]),⟨[encV a]::[encV b]::B,tk,[]⟩):=by
  rw[show([AV.str s]++[.ptr 0 0,.ptr 1 0])=[.str s,.ptr 0 0,.ptr 1 0]from rfl,l63];exact h
 have hd:=does_callE h2 rfl rfl
 rwa [trunc_self]at hd
def rgA(v:List Amount):Prop:=∀x∈v,inI x.n
theorem rg_get{v:List Amount}(h:rgA v)(s:List UInt8):inI (getQ v s):=by
 unfold getQ
 split
 ·rename_i x hx;exact h x (List.mem_of_find?_eq_some hx)
 ·unfold inI;omega
def addV(a b:List Amount):List Amount×Int:=madeV (fun s=>addQ (getQ a s) (getQ b s)) [a,b]
def subV(a b:List Amount):List Amount×Int:=madeV (fun s=>subQ (getQ a s) (getQ b s)) [a,b]
theorem addV_any(a b:List Amount)(ha:a.length<9223372036854775807)(hb:b.length<9223372036854775807)(ra:rgA a)(rb:rgA b):
 Gives cfg 21 [.sl .sh (a.map encA),.sl .sh (b.map encA)] (.tuple [.sl .sh ((addV a b).1.map encA),.int .i64 (addV a b).2]):=by
 refine Gives.run (l21 _ _) ?_
 obtain⟨H',h⟩:=made_any (fun s=>addQ (getQ a s) (getQ b s)) 57 (encV a) (encV b) [a,b] (add_of a b ha hb (rg_get ra) (rg_get rb)) (by simp) ⟨rfl,rfl⟩
 have h2:Does cfg (.call (.c (.func 56 [])) [.c (.func 57 [.ptr 0 0,.ptr 1 0]),.c (.sl .sh [.sl .sh (a.map encA),.sl .sh (b.map encA)])]) ⟨[[.sl .sh (a.map encA)],[.sl .sh (b.map encA)]],[],[]⟩ (.tuple [.sl .sh ((addV a b).1.map encA),.int .i64 (addV a b).2]) H':=h
 have h3:Does cfg (.call (.c (.func 56 [])) [.c (.func 57 [.ptr 0 0,.ptr 1 0]),.c (.sl .full [.sl .sh (a.map encA),.sl .sh (b.map encA)])]) ⟨[[.sl .sh (a.map encA)],[.sl .sh (b.map encA)]],[],[]⟩ (.tuple [.sl .sh ((addV a b).1.map encA),.int .i64 (addV a b).2]) H':=fun T=>h2 T
 generalize addV a b=z at h3⊢
 exact let ζ1:List AV:=[.sl .sh (z.fst.map encA),.int .i64 z.snd];goG 60 [] trivial (.effY (show Does cfg (.call (.c (.func (56:FuncId) [])) [.c (.func (57:FuncId) [.ptr 0 0,.ptr 1 0]),.c (.sl .full [.sl .sh (a.map encA),.sl .sh (b.map encA)])]) {boxes:=[[.sl .sh (a.map encA)],[.sl .sh (b.map encA)]],toks:=[],loops:=[]:Heap} (.tuple ζ1) H' from h3)<|.fin ((.ret (.tuple ζ1),H')) rfl) (by kernel_rfl)
theorem subV_any(a b:List Amount)(ha:a.length<9223372036854775807)(hb:b.length<9223372036854775807)(ra:rgA a)(rb:rgA b):
 Gives cfg 24 [.sl .sh (a.map encA),.sl .sh (b.map encA)] (.tuple [.sl .sh ((subV a b).1.map encA),.int .i64 (subV a b).2]):=by
 refine Gives.run (l24 _ _) ?_
 obtain⟨H',h⟩:=made_any (fun s=>subQ (getQ a s) (getQ b s)) 63 (encV a) (encV b) [a,b] (sub_of a b ha hb (rg_get ra) (rg_get rb)) (by simp) ⟨rfl,rfl⟩
 have h2:Does cfg (.call (.c (.func 56 [])) [.c (.func 63 [.ptr 0 0,.ptr 1 0]),.c (.sl .sh [.sl .sh (a.map encA),.sl .sh (b.map encA)])]) ⟨[[.sl .sh (a.map encA)],[.sl .sh (b.map encA)]],[],[]⟩ (.tuple [.sl .sh ((subV a b).1.map encA),.int .i64 (subV a b).2]) H':=h
 have h3:Does cfg (.call (.c (.func 56 [])) [.c (.func 63 [.ptr 0 0,.ptr 1 0]),.c (.sl .full [.sl .sh (a.map encA),.sl .sh (b.map encA)])]) ⟨[[.sl .sh (a.map encA)],[.sl .sh (b.map encA)]],[],[]⟩ (.tuple [.sl .sh ((subV a b).1.map encA),.int .i64 (subV a b).2]) H':=fun T=>h2 T
 generalize subV a b=z at h3⊢
 exact let ζ1:List AV:=[.sl .sh (z.fst.map encA),.int .i64 z.snd];goG 60 [] trivial (.effY (show Does cfg (.call (.c (.func (56:FuncId) [])) [.c (.func (63:FuncId) [.ptr 0 0,.ptr 1 0]),.c (.sl .full [.sl .sh (a.map encA),.sl .sh (b.map encA)])]) {boxes:=[[.sl .sh (a.map encA)],[.sl .sh (b.map encA)]],toks:=[],loops:=[]:Heap} (.tuple ζ1) H' from h3)<|.fin ((.ret (.tuple ζ1),H')) rfl) (by kernel_rfl)
end Go.Aa.T
set_option linter.unusedVariables false
set_option linter.unusedSimpArgs false
set_option maxRecDepth 100000
namespace Go.Aa.T
open Go.Aa Go.Proofs
def mulQ(a b:Int):Int×Int:=if bothE a b≠0 then(0,bothE a b)else toldQ (a*b)
def partQ(a b:Int):Int×Int:=if bothE a b≠0 then(0,bothE a b)else toldQ (a*b/1000)
theorem add64_0{r:Nat}(h:r<18446744073709551616):Gives cfg 126 [.int .u64 (r:Int),.int .u64 0,.int .u64 0] (.tuple [.int .u64 (r:Int),.int .u64 0]):=by
 refine Gives.of (H':=Heap.nil) ?_
 rw[lim_ext (g:=add64E) rfl rfl]
 have:add64E [.int .u64 (r:Int),.int .u64 0,.int .u64 0] Heap.nil=some (.tuple [.int .u64 (r:Int),.int .u64 0],Heap.nil):=by
  have h1:((r:Int)+0+0)%18446744073709551616=r:=by omega
  have h2:((r:Int)+0+0)/18446744073709551616=0:=by omega
  simp only[add64E]
  rw[if_pos ⟨by omega,by decide,by decide⟩,h1,h2]
 rw[this];rfl
theorem told_gt{n:Int}{b:Bool}(hb:b=true):Gives cfg 101 [.int .u64 n,.bool b] (.tuple [.int .i64 0,.int .i64 5]):=by subst hb;exact told_over n
theorem told_le{n:Int}{b:Bool}(h:0≤n)(hb:b=false):Gives cfg 101 [.int .u64 n,.bool b] (.tuple [.int .i64 (toldQ n).1,.int .i64 (toldQ n).2]):=by subst hb;exact told_any n h
theorem qmul_any(a b:Int)(ha:inI a)(hb:inI b):Gives cfg 67 [.int .i64 a,.int .i64 b] (.tuple [.int .i64 (mulQ a b).1,.int .i64 (mulQ a b).2]):=by
 refine Gives.run (l67 _ _) ?_
 obtain⟨ha1,ha2⟩:=ha
 obtain⟨hb1,hb2⟩:=hb
 have h0:=both_any a b
 by_cases he:bothE a b=0
 ·have e:mulQ a b=toldQ (a*b):=by simp[mulQ,he]
  rw[e]
  obtain⟨i1,i2⟩:=both_ok he
  rw[he]at h0
  obtain⟨x,rfl⟩:∃x:Nat,a=x:=⟨a.toNat,by omega⟩
  obtain⟨y,rfl⟩:∃y:Nat,b=y:=⟨b.toNat,by omega⟩
  have c1:convA (.int .u64) (.int .i64 (x:Int))=some (.int .u64 (x:Int)):=conv_u64 i1 (by omega)
  have c2:convA (.int .u64) (.int .i64 (y:Int))=some (.int .u64 (y:Int)):=conv_u64 i2 (by omega)
  have hm:=mul64_any x y (by omega) (by omega)
  have ep:(x:Int)*(y:Int)=((x*y:Nat):Int):=by simp
  rw[ep]
  generalize x*y=p at hm⊢
  by_cases hh:p/18446744073709551616=0
  ·have ht:=told_le (n:=((p%18446744073709551616:Nat):Int)) (b:=decide ((0:Int)<((p/18446744073709551616:Nat):Int))) (by omega) (by simp;omega)
   have e2:p%18446744073709551616=p:=by omega
   rw[e2]at hm ht
   generalize p/18446744073709551616=q at hm ht
   generalize toldQ (p:Int)=z at ht⊢
   exact let ζ1:List AV:=[.int .i64 z.fst,.int .i64 z.snd];let ζ2:List AV:=[.int .u64 ↑p,.bool (decide ((0:Int)<(↑q:Int)))];let ζ3:List AV:=[.int .i64 ↑x,.int .i64 ↑y];let ζ4:List AV:=[.int .u64 ↑x,.int .u64 ↑y];let ζ5:List AV:=[.int .u64 ↑q,.int .u64 ↑p];goG 60 [] trivial (.callK (ζ3) (.int .i64 0) (show Gives cfg (100:FuncId) ζ3 (.int .i64 0)from h0)<|.ff<|.conv (show convA (CV.int IntKind.u64) (.int .i64 ↑x)=some (.int .u64 ↑x)from c1)<|.conv (show convA (CV.int IntKind.u64) (.int .i64 ↑y)=some (.int .u64 ↑y)from c2)<|.callK (ζ4) (.tuple ζ5) (show Gives cfg (102:FuncId) ζ4 (.tuple ζ5)from hm)<|.callK (ζ2) (.tuple ζ1) (show Gives cfg (101:FuncId) ζ2 (.tuple ζ1)from ht)<|.fin ((.ret (.tuple ζ1),{boxes:=[],toks:=[],loops:=[]:Heap})) rfl) (by kernel_rfl)
  ·have ht:=told_gt (n:=((p%18446744073709551616:Nat):Int)) (b:=decide ((0:Int)<((p/18446744073709551616:Nat):Int))) (by simp;omega)
   have e2:toldQ (p:Int)=(0,5):=by unfold toldQ;rw[if_pos (by omega)]
   rw[e2]
   generalize p/18446744073709551616=q at hm ht
   generalize p%18446744073709551616=r at hm ht
   exact let ζ1:List AV:=[.int .u64 ↑r,.bool (decide ((0:Int)<(↑q:Int)))];let ζ2:List AV:=[.int .i64 ↑x,.int .i64 ↑y];let ζ3:List AV:=[.int .u64 ↑x,.int .u64 ↑y];let ζ4:List AV:=[.int .u64 ↑q,.int .u64 ↑r];goG 60 [] trivial (.callK (ζ2) (.int .i64 0) (show Gives cfg (100:FuncId) ζ2 (.int .i64 0)from h0)<|.ff<|.conv (show convA (CV.int IntKind.u64) (.int .i64 ↑x)=some (.int .u64 ↑x)from c1)<|.conv (show convA (CV.int IntKind.u64) (.int .i64 ↑y)=some (.int .u64 ↑y)from c2)<|.callK (ζ3) (.tuple ζ4) (show Gives cfg (102:FuncId) ζ3 (.tuple ζ4)from hm)<|.callK (ζ1) (.tuple [.int .i64 0,.int .i64 5]) (show Gives cfg (101:FuncId) ζ1 (.tuple [.int .i64 0,.int .i64 5])from ht)<|.fin ((.ret (.tuple [.int .i64 0,.int .i64 5]),{boxes:=[],toks:=[],loops:=[]:Heap})) rfl) (by kernel_rfl)
 ·have e:mulQ a b=(0,bothE a b):=by simp[mulQ,he]
  rw[e]
  generalize bothE a b=c at*
  exact goG 60 [] trivial (.callI h0<|.yes (show(c !=(0:Int))=true from(by simpa using he))<|.fin ((.ret (.tuple [.int .i64 0,.int .i64 c]),{boxes:=[],toks:=[],loops:=[]:Heap})) rfl) (by kernel_rfl)
theorem div64_all(hi lo:Nat)(h:hi<1000)(hl:lo<18446744073709551616):∃rem:Int,Gives cfg 127 [.int .u64 (hi:Int),.int .u64 (lo:Int),.int .u64 1000] (.tuple [.int .u64 (((hi*18446744073709551616+lo)/1000:Nat):Int),.int .u64 rem]):=by
 by_cases h0:hi=0
 ·subst h0
  obtain⟨r,h⟩:=div64_one lo hl
  refine⟨r,?_⟩
  have e:0*18446744073709551616+lo=lo:=by omega
  rw[e]
  exact h
 ·obtain⟨r,h⟩:=div64_two hi lo (by omega) h hl
  exact⟨r,h⟩
theorem part_ar(p:Nat):p/18446744073709551616*18446744073709551616+p%18446744073709551616=p:=by omega
theorem part_big{p:Nat}(h:¬p/18446744073709551616<1000):(9223372036854775807:Int)<((p:Nat):Int)/1000:=by omega
theorem qpart0_any(a b:Int)(ha:inI a)(hb:inI b):Gives cfg 103 [.int .i64 a,.int .i64 b,.int .u64 0] (.tuple [.int .i64 (partQ a b).1,.int .i64 (partQ a b).2]):=by
 refine Gives.run (l103 _ _) ?_
 obtain⟨ha1,ha2⟩:=ha
 obtain⟨hb1,hb2⟩:=hb
 have h0:=both_any a b
 by_cases he:bothE a b=0
 ·have e:partQ a b=toldQ (a*b/1000):=by simp[partQ,he]
  rw[e]
  obtain⟨i1,i2⟩:=both_ok he
  rw[he]at h0
  obtain⟨x,rfl⟩:∃x:Nat,a=x:=⟨a.toNat,by omega⟩
  obtain⟨y,rfl⟩:∃y:Nat,b=y:=⟨b.toNat,by omega⟩
  have c1:convA (.int .u64) (.int .i64 (x:Int))=some (.int .u64 (x:Int)):=conv_u64 i1 (by omega)
  have c2:convA (.int .u64) (.int .i64 (y:Int))=some (.int .u64 (y:Int)):=conv_u64 i2 (by omega)
  have hm:=mul64_any x y (by omega) (by omega)
  have ep:(x:Int)*(y:Int)=((x*y:Nat):Int):=by simp
  rw[ep]
  have hq:x*y/18446744073709551616<18446744073709551616:=by
   have:=Nat.mul_lt_mul'' (show x<18446744073709551616 by omega) (show y<18446744073709551616 by omega)
   omega
  generalize x*y=p at hm hq⊢
  have hlo:p%18446744073709551616<18446744073709551616:=by omega
  have hpa:=part_ar p
  have hpb:= @part_big p
  have hpd:((p:Nat):Int)/1000=((p/1000:Nat):Int):=by omega
  have hd:=div64_all (p/18446744073709551616) (p%18446744073709551616)
  rw[hpa]at hd
  generalize p/18446744073709551616=q at hm hd hpb hq
  generalize p%18446744073709551616=r at hm hd hlo
  have ha64:Gives cfg 126 [.int .u64 (r:Int),.int .u64 0,.int .u64 0] (.tuple [.int .u64 (r:Int),.int .u64 0]):=add64_0 (by omega)
  have hs:binA .add (.int .u64 (q:Int)) (.int .u64 0)=some (.int .u64 (q:Int)):=by rw[addU (by omega) (by omega)];simp
  by_cases hh:q<1000
  ·obtain⟨rem,hd⟩:=hd hh hlo
   have ht:=told_any ((p/1000:Nat):Int) (by omega)
   rw[hpd]
   generalize p/1000=m at hd ht
   generalize toldQ (m:Int)=z at ht⊢
   exact let ζ1:List AV:=[.int .i64 z.fst,.int .i64 z.snd];let ζ2:List AV:=[.int .u64 ↑q,.int .u64 ↑r,.int .u64 1000];let ζ3:List AV:=[.int .u64 ↑r,.int .u64 0,.int .u64 0];let ζ4:List AV:=[.int .i64 ↑x,.int .i64 ↑y];let ζ5:List AV:=[.int .u64 ↑x,.int .u64 ↑y];let ζ6:List AV:=[.int .u64 ↑q,.int .u64 ↑r];let ζ7:List AV:=[.int .u64 ↑m,.int .u64 rem];let ζ8:List AV:=[.int .u64 ↑r,.int .u64 0];let ζ9:List AV:=[.int .u64 ↑m,.bool false];goG 90 [] trivial (.callK (ζ4) (.int .i64 0) (show Gives cfg (100:FuncId) ζ4 (.int .i64 0)from h0)<|.ff<|.conv (show convA (CV.int IntKind.u64) (.int .i64 ↑x)=some (.int .u64 ↑x)from c1)<|.conv (show convA (CV.int IntKind.u64) (.int .i64 ↑y)=some (.int .u64 ↑y)from c2)<|.callK (ζ5) (.tuple ζ6) (show Gives cfg (102:FuncId) ζ5 (.tuple ζ6)from hm)<|.callK (ζ3) (.tuple ζ8) (show Gives cfg (126:FuncId) ζ3 (.tuple ζ8)from ha64)<|.bin (show binA .add (.int .u64 ↑q) (.int .u64 0)=some (.int .u64 ↑q)from hs)<|.no (show(decide ((1000:Int)≤(↑q:Int)))=false from decide_eq_false (by omega))<|.callK (ζ2) (.tuple ζ7) (show Gives cfg (127:FuncId) ζ2 (.tuple ζ7)from hd)<|.callK (ζ9) (.tuple ζ1) (show Gives cfg (101:FuncId) ζ9 (.tuple ζ1)from ht)<|.fin ((.ret (.tuple ζ1),{boxes:=[],toks:=[],loops:=[]:Heap})) rfl) (by kernel_rfl)
  ·have hb:=hpb hh
   have e2:toldQ (((p:Nat):Int)/1000)=(0,5):=by unfold toldQ;rw[if_pos hb]
   rw[e2]
   exact let ζ1:List AV:=[.int .u64 ↑r,.int .u64 0,.int .u64 0];let ζ2:List AV:=[.int .i64 ↑x,.int .i64 ↑y];let ζ3:List AV:=[.int .u64 ↑x,.int .u64 ↑y];let ζ4:List AV:=[.int .u64 ↑q,.int .u64 ↑r];let ζ5:List AV:=[.int .u64 ↑r,.int .u64 0];goG 90 [] trivial (.callK (ζ2) (.int .i64 0) (show Gives cfg (100:FuncId) ζ2 (.int .i64 0)from h0)<|.ff<|.conv (show convA (CV.int IntKind.u64) (.int .i64 ↑x)=some (.int .u64 ↑x)from c1)<|.conv (show convA (CV.int IntKind.u64) (.int .i64 ↑y)=some (.int .u64 ↑y)from c2)<|.callK (ζ3) (.tuple ζ4) (show Gives cfg (102:FuncId) ζ3 (.tuple ζ4)from hm)<|.callK (ζ1) (.tuple ζ5) (show Gives cfg (126:FuncId) ζ1 (.tuple ζ5)from ha64)<|.bin (show binA .add (.int .u64 ↑q) (.int .u64 0)=some (.int .u64 ↑q)from hs)<|.yes (show(decide ((1000:Int)≤(↑q:Int)))=true from decide_eq_true (by omega))<|.fin ((.ret (.tuple [.int .i64 0,.int .i64 5]),{boxes:=[],toks:=[],loops:=[]:Heap})) rfl) (by kernel_rfl)
 ·have e:partQ a b=(0,bothE a b):=by simp[partQ,he]
  rw[e]
  generalize bothE a b=c at*
  exact goG 60 [] trivial (.callI h0<|.yes (show(c !=(0:Int))=true from(by simpa using he))<|.fin ((.ret (.tuple [.int .i64 0,.int .i64 c]),{boxes:=[],toks:=[],loops:=[]:Heap})) rfl) (by kernel_rfl)
theorem qpart_any(a b:Int)(ha:inI a)(hb:inI b):Gives cfg 70 [.int .i64 a,.int .i64 b] (.tuple [.int .i64 (partQ a b).1,.int .i64 (partQ a b).2]):=by
 refine Gives.run (l70 _ _) ?_
 have h:=qpart0_any a b ha hb
 generalize partQ a b=z at h⊢
 exact let ζ1:List AV:=[.int .i64 z.fst,.int .i64 z.snd];let ζ2:List AV:=[.int .i64 a,.int .i64 b,.int .u64 0];goG 60 [] trivial (.callK (ζ2) (.tuple ζ1) (show Gives cfg (103:FuncId) ζ2 (.tuple ζ1)from h)<|.fin ((.ret (.tuple ζ1),{boxes:=[],toks:=[],loops:=[]:Heap})) rfl) (by kernel_rfl)
end Go.Aa.T


