/-
  WHAT THE LAW LEANS ON, part 8 of 9: a machine of values and its soundness; the functions of the law upon it; what they come to.
-/
import Derived.Test.YtbcfceehklfojaaGreatDoorVtwog
import Derived.Lib.ItoaLen
set_option linter.unusedVariables false
set_option linter.unusedSimpArgs false
set_option maxRecDepth 100000
namespace Go.Aa.T
open Go.Aa Go.Proofs
theorem quo_nat{a m:Nat}(hm:m≠0)(h:a≤9223372036854775807):binA .quo (.int .i64 (a:Int)) (.int .i64 (m:Int))=some (.int .i64 ((a/m:Nat):Int)):=by
 have h3:(m:Int)≠0:=by omega
 have e:(a:Int).tdiv (m:Int)=((a/m:Nat):Int):=rfl
 have h4:a/m≤a:=Nat.div_le_self _ _
 simp only[binA,if_true,intBin,if_neg h3,e]
 generalize a/m=d at h4⊢
 rw[wrap_i64 (by omega) (by omega)]
theorem mul_gt{a b:Nat}(ha:0<a):9223372036854775807/a<b↔9223372036854775807<a*b:=by
 rw[Nat.div_lt_iff_lt_mul ha,Nat.mul_comm]
theorem qmul_ref(a b:Int)(ha:inI a)(hb:inI b):Gives cfg 68 [.int .i64 a,.int .i64 b] (.tuple [.int .i64 (mulQ a b).1,.int .i64 (mulQ a b).2]):=by
 refine Gives.run (l68 _ _) ?_
 obtain⟨ha1,ha2⟩:=ha
 obtain⟨hb1,hb2⟩:=hb
 by_cases he:bothE a b=0
 ·obtain⟨i1,i2⟩:=both_ok he
  have e:mulQ a b=toldQ (a*b):=by simp[mulQ,he]
  rw[e]
  obtain⟨x,rfl⟩:∃x:Nat,a=x:=⟨a.toNat,by omega⟩
  obtain⟨y,rfl⟩:∃y:Nat,b=y:=⟨b.toNat,by omega⟩
  have ep:(x:Int)*(y:Int)=((x*y:Nat):Int):=by simp
  by_cases hx:0<x
  ·have hq:binA .quo (.int .i64 9223372036854775807) (.int .i64 (x:Int))=some (.int .i64 ((9223372036854775807/x:Nat):Int)):=quo_nat (a:=9223372036854775807) (by omega) (by omega)
   have hg:=mul_gt (b:=y) hx
   by_cases ho:9223372036854775807<x*y
   ·have e:toldQ ((x:Int)*(y:Int))=(0,5):=by unfold toldQ;rw[ep,if_pos (by omega)]
    rw[e]
    have hg:=hg.2 ho
    generalize 9223372036854775807/x=q at hq hg
    exact goG 60 [] trivial (.ff<|.ff<|.yes (show(decide ((0:Int)<(↑x:Int)))=true from decide_eq_true (by omega))<|.bin (show binA .quo (.int .i64 9223372036854775807) (.int .i64 ↑x)=some (.int .i64 ↑q)from hq)<|.yes (show(decide ((↑q:Int)<(↑y:Int)))=true from decide_eq_true (by omega))<|.fin ((.ret (.tuple [.int .i64 0,.int .i64 5]),{boxes:=[],toks:=[],loops:=[]:Heap})) rfl) (by kernel_rfl)
   ·have e:toldQ ((x:Int)*(y:Int))=((x:Int)*(y:Int),0):=by unfold toldQ;rw[if_neg (by rw[ep];omega)]
    rw[e]
    have hm:binA .mul (.int .i64 (x:Int)) (.int .i64 (y:Int))=some (.int .i64 ((x:Int)*(y:Int))):=mulI (by rw[ep];omega) (by rw[ep];omega)
    have hg:¬9223372036854775807/x<y:=fun h=>ho (hg.1 h)
    generalize 9223372036854775807/x=q at hq hg
    generalize(x:Int)*(y:Int)=p at hm⊢
    exact goG 60 [] trivial (.ff<|.ff<|.yes (show(decide ((0:Int)<(↑x:Int)))=true from decide_eq_true (by omega))<|.bin (show binA .quo (.int .i64 9223372036854775807) (.int .i64 ↑x)=some (.int .i64 ↑q)from hq)<|.no (show(decide ((↑q:Int)<(↑y:Int)))=false from decide_eq_false (by omega))<|.bin (show binA .mul (.int .i64 ↑x) (.int .i64 ↑y)=some (.int .i64 p)from hm)<|.fin ((.ret (.tuple [.int .i64 p,.int .i64 0]),{boxes:=[],toks:=[],loops:=[]:Heap})) rfl) (by kernel_rfl)
  ·have:x=0:=by omega
   subst this
   have e:toldQ (((0:Nat):Int)*(y:Int))=(0,0):=by simp[toldQ]
   rw[e]
   have hm:binA .mul (.int .i64 0) (.int .i64 (y:Int))=some (.int .i64 0):=by
    have:=mulI (a:=0) (b:=(y:Int)) (by omega) (by omega)
    rw[Int.zero_mul]at this
    exact this
   have e0:(((0:Nat):Int))=0:=rfl
   rw[e0]
   exact goG 60 [] trivial (.ff<|.ff<|.ff<|.ff<|.bin (show binA .mul (.int .i64 0) (.int .i64 ↑y)=some (.int .i64 0)from hm)<|.fin ((.ret (.tuple [.int .i64 0,.int .i64 0]),{boxes:=[],toks:=[],loops:=[]:Heap})) rfl) (by kernel_rfl)
 ·have e:mulQ a b=(0,1):=by
   have:bothE a b=1:=by unfold bothE at he⊢;grind
   simp[mulQ,this]
  rw[e]
  have hor:a<0∨b<0:=by unfold bothE at he;grind
  by_cases h1:a<0
  ·exact goG 60 [] trivial (.yes (show(decide (a<(0:Int)))=true from decide_eq_true (by exact h1))<|.tt<|.fin ((.ret (.tuple [.int .i64 0,.int .i64 1]),{boxes:=[],toks:=[],loops:=[]:Heap})) rfl) (by kernel_rfl)
  ·have h2:b<0:=by omega
   exact goG 60 [] trivial (.no (show(decide (a<(0:Int)))=false from decide_eq_false (by exact h1))<|.yes (show(decide (b<(0:Int)))=true from decide_eq_true (by exact h2))<|.fin ((.ret (.tuple [.int .i64 0,.int .i64 1]),{boxes:=[],toks:=[],loops:=[]:Heap})) rfl) (by kernel_rfl)
theorem part_sum{a q r p x y:Nat}(h1:a=1000*q+r)(h2:p=1000*x+y):a*p=1000*(a*x)+1000*(q*y)+r*y:=by
 subst h2
 rw[Nat.mul_add,Nat.mul_left_comm]
 conv=>lhs;rhs;rw[h1,Nat.add_mul,Nat.mul_assoc]
 omega
theorem toldP{n:Int}(h:9223372036854775807<n):toldQ n=(0,5):=by unfold toldQ;rw[if_pos h]
theorem toldN{n:Int}(h:n≤9223372036854775807):toldQ n=(n,0):=by unfold toldQ;rw[if_neg (by omega)]
theorem mulQ_nat{a b:Nat}:mulQ (a:Int) (b:Int)=toldQ ((a*b:Nat):Int):=by
 unfold mulQ bothE;rw[if_neg (show¬(a:Int)<0 by omega),if_neg (show¬(b:Int)<0 by omega),if_neg (by simp)];simp
theorem addQ_nat{a b:Nat}:addQ (a:Int) (b:Int)=toldQ ((a+b:Nat):Int):=by
 unfold addQ bothE;rw[if_neg (show¬(a:Int)<0 by omega),if_neg (show¬(b:Int)<0 by omega),if_neg (by simp)];simp
theorem part_ref(a p:Int)(ha:inI a)(hp:inI p):∃t:Int,Gives cfg 104 [.int .i64 a,.int .i64 p] (.tuple [.int .i64 (partQ a p).1,.int .i64 t,.int .i64 (partQ a p).2]):=by
 obtain⟨ha1,ha2⟩:=ha
 obtain⟨hp1,hp2⟩:=hp
 by_cases he:bothE a p=0
 ·obtain⟨i1,i2⟩:=both_ok he
  have e:partQ a p=toldQ (a*p/1000):=by simp[partQ,he]
  rw[e]
  obtain⟨A,rfl⟩:∃x:Nat,a=x:=⟨a.toNat,by omega⟩
  obtain⟨P,rfl⟩:∃y:Nat,p=y:=⟨p.toNat,by omega⟩
  have q1:binA .quo (.int .i64 (A:Int)) (.int .i64 1000)=some (.int .i64 ((A/1000:Nat):Int)):=quo_nat (m:=1000) (by decide) (by omega)
  have r1:binA .rem (.int .i64 (A:Int)) (.int .i64 1000)=some (.int .i64 ((A%1000:Nat):Int)):=rem_nat (m:=1000) (by decide)
  have q2:binA .quo (.int .i64 (P:Int)) (.int .i64 1000)=some (.int .i64 ((P/1000:Nat):Int)):=quo_nat (m:=1000) (by decide) (by omega)
  have r2:binA .rem (.int .i64 (P:Int)) (.int .i64 1000)=some (.int .i64 ((P%1000:Nat):Int)):=rem_nat (m:=1000) (by decide)
  have hs:=part_sum (show A=1000*(A/1000)+A%1000 by omega) (show P=1000*(P/1000)+P%1000 by omega)
  have lr:A%1000<1000:=Nat.mod_lt _ (by decide)
  have ly:P%1000<1000:=Nat.mod_lt _ (by decide)
  have lq:A/1000≤9223372036854775807:=by omega
  have lx:P/1000≤9223372036854775807:=by omega
  have ep:(A:Int)*(P:Int)/1000=((A*P/1000:Nat):Int):=by simp
  rw[ep]
  generalize A/1000=q at*
  generalize A%1000=r at*
  generalize P/1000=x at*
  generalize P%1000=y at*
  have m1:=qmul_ref (A:Int) (x:Int) (by unfold inI;omega) (by unfold inI;omega)
  have m2:=qmul_ref (q:Int) (y:Int) (by unfold inI;omega) (by unfold inI;omega)
  rw[mulQ_nat]at m1 m2
  have lG:r*y≤999*999:=Nat.mul_le_mul (by omega) (by omega)
  have mG:binA .mul (.int .i64 (r:Int)) (.int .i64 (y:Int))=some (.int .i64 ((r*y:Nat):Int)):=by
   have e:(r:Int)*(y:Int)=((r*y:Nat):Int):=by simp
   rw[mulI (by rw[e];omega) (by rw[e];omega),e]
  generalize A*P=AP at hs⊢
  generalize A*x=N at hs m1
  generalize q*y=M at hs m2
  generalize r*y=G at hs mG lG
  have hd:AP/1000=N+M+G/1000:=by omega
  rw[hd]
  have qG:binA .quo (.int .i64 (G:Int)) (.int .i64 1000)=some (.int .i64 ((G/1000:Nat):Int)):=quo_nat (m:=1000) (by decide) (by omega)
  have rG:binA .rem (.int .i64 (G:Int)) (.int .i64 1000)=some (.int .i64 ((G%1000:Nat):Int)):=rem_nat (m:=1000) (by decide)
  have lF:G/1000≤1000:=by omega
  generalize G/1000=F at*
  generalize G%1000=Z at*
  clear hs hd ep
  by_cases hN:9223372036854775807<N
  ·rw[toldP (by omega)]at m1
   rw[toldP (by omega)]
   refine⟨0,Gives.run (l104 _ _) ?_⟩
   exact let ζ1:List AV:=[.int .i64 ((0:Int),(5:Int)).fst,.int .i64 ((0:Int),(5:Int)).snd];let ζ2:List AV:=[.int .i64 ↑A,.int .i64 ↑x];goG 90 [] trivial (.ff<|.ff<|.bin (show binA .quo (.int .i64 ↑A) (.int .i64 1000)=some (.int .i64 ↑q)from q1)<|.bin (show binA .rem (.int .i64 ↑A) (.int .i64 1000)=some (.int .i64 ↑r)from r1)<|.bin (show binA .quo (.int .i64 ↑P) (.int .i64 1000)=some (.int .i64 ↑x)from q2)<|.bin (show binA .rem (.int .i64 ↑P) (.int .i64 1000)=some (.int .i64 ↑y)from r2)<|.callK (ζ2) (.tuple ζ1) (show Gives cfg (68:FuncId) ζ2 (.tuple ζ1)from m1)<|.tt<|.fin ((.ret (.tuple [.int .i64 0,.int .i64 0,.int .i64 ((0:Int),(5:Int)).snd]),{boxes:=[],toks:=[],loops:=[]:Heap})) rfl) (by kernel_rfl)
  ·rw[toldN (by omega)]at m1
   by_cases hM:9223372036854775807<M
   ·rw[toldP (by omega)]at m2
    rw[toldP (by omega)]
    refine⟨0,Gives.run (l104 _ _) ?_⟩
    exact let ζ1:List AV:=[.int .i64 ((↑N:Int),(0:Int)).fst,.int .i64 ((↑N:Int),(0:Int)).snd];let ζ2:List AV:=[.int .i64 ((0:Int),(5:Int)).fst,.int .i64 ((0:Int),(5:Int)).snd];let ζ3:List AV:=[.int .i64 ↑A,.int .i64 ↑x];let ζ4:List AV:=[.int .i64 ↑q,.int .i64 ↑y];goG 120 [] trivial (.ff<|.ff<|.bin (show binA .quo (.int .i64 ↑A) (.int .i64 1000)=some (.int .i64 ↑q)from q1)<|.bin (show binA .rem (.int .i64 ↑A) (.int .i64 1000)=some (.int .i64 ↑r)from r1)<|.bin (show binA .quo (.int .i64 ↑P) (.int .i64 1000)=some (.int .i64 ↑x)from q2)<|.bin (show binA .rem (.int .i64 ↑P) (.int .i64 1000)=some (.int .i64 ↑y)from r2)<|.callK (ζ3) (.tuple ζ1) (show Gives cfg (68:FuncId) ζ3 (.tuple ζ1)from m1)<|.ff<|.callK (ζ4) (.tuple ζ2) (show Gives cfg (68:FuncId) ζ4 (.tuple ζ2)from m2)<|.tt<|.fin ((.ret (.tuple [.int .i64 0,.int .i64 0,.int .i64 ((0:Int),(5:Int)).snd]),{boxes:=[],toks:=[],loops:=[]:Heap})) rfl) (by kernel_rfl)
   ·rw[toldN (by omega)]at m2
    have a1:=qadd_ref (N:Int) (M:Int) (by unfold inI;omega) (by unfold inI;omega)
    rw[addQ_nat]at a1
    by_cases hS:9223372036854775807<N+M
    ·rw[toldP (by omega)]at a1
     rw[toldP (by omega)]
     refine⟨0,Gives.run (l104 _ _) ?_⟩
     exact let ζ1:List AV:=[.int .i64 ((↑N:Int),(0:Int)).fst,.int .i64 ((↑N:Int),(0:Int)).snd];let ζ2:List AV:=[.int .i64 ((↑M:Int),(0:Int)).fst,.int .i64 ((↑M:Int),(0:Int)).snd];let ζ3:List AV:=[.int .i64 ((0:Int),(5:Int)).fst,.int .i64 ((0:Int),(5:Int)).snd];let ζ4:List AV:=[.int .i64 ↑A,.int .i64 ↑x];let ζ5:List AV:=[.int .i64 ↑q,.int .i64 ↑y];goG 150 [] trivial (.ff<|.ff<|.bin (show binA .quo (.int .i64 ↑A) (.int .i64 1000)=some (.int .i64 ↑q)from q1)<|.bin (show binA .rem (.int .i64 ↑A) (.int .i64 1000)=some (.int .i64 ↑r)from r1)<|.bin (show binA .quo (.int .i64 ↑P) (.int .i64 1000)=some (.int .i64 ↑x)from q2)<|.bin (show binA .rem (.int .i64 ↑P) (.int .i64 1000)=some (.int .i64 ↑y)from r2)<|.callK (ζ4) (.tuple ζ1) (show Gives cfg (68:FuncId) ζ4 (.tuple ζ1)from m1)<|.ff<|.callK (ζ5) (.tuple ζ2) (show Gives cfg (68:FuncId) ζ5 (.tuple ζ2)from m2)<|.ff<|.callI a1<|.tt<|.fin ((.ret (.tuple [.int .i64 0,.int .i64 0,.int .i64 ((0:Int),(5:Int)).snd]),{boxes:=[],toks:=[],loops:=[]:Heap})) rfl) (by kernel_rfl)
    ·rw[toldN (by omega)]at a1
     have a2:=qadd_ref ((N+M:Nat):Int) (F:Int) (by unfold inI;omega) (by unfold inI;omega)
     rw[addQ_nat]at a2
     generalize N+M=S at a1 a2 hS⊢
     by_cases hT:9223372036854775807<S+F
     ·rw[toldP (by omega)]at a2
      rw[toldP (by omega)]
      refine⟨0,Gives.run (l104 _ _) ?_⟩
      exact let ζ1:List AV:=[.int .i64 ((↑N:Int),(0:Int)).fst,.int .i64 ((↑N:Int),(0:Int)).snd];let ζ2:List AV:=[.int .i64 ((↑M:Int),(0:Int)).fst,.int .i64 ((↑M:Int),(0:Int)).snd];let ζ3:List AV:=[.int .i64 ((↑S:Int),(0:Int)).fst,.int .i64 ((↑S:Int),(0:Int)).snd];let ζ4:List AV:=[.int .i64 ((0:Int),(5:Int)).fst,.int .i64 ((0:Int),(5:Int)).snd];let ζ5:List AV:=[.int .i64 ↑A,.int .i64 ↑x];let ζ6:List AV:=[.int .i64 ↑q,.int .i64 ↑y];goG 180 [] trivial (.ff<|.ff<|.bin (show binA .quo (.int .i64 ↑A) (.int .i64 1000)=some (.int .i64 ↑q)from q1)<|.bin (show binA .rem (.int .i64 ↑A) (.int .i64 1000)=some (.int .i64 ↑r)from r1)<|.bin (show binA .quo (.int .i64 ↑P) (.int .i64 1000)=some (.int .i64 ↑x)from q2)<|.bin (show binA .rem (.int .i64 ↑P) (.int .i64 1000)=some (.int .i64 ↑y)from r2)<|.callK (ζ5) (.tuple ζ1) (show Gives cfg (68:FuncId) ζ5 (.tuple ζ1)from m1)<|.ff<|.callK (ζ6) (.tuple ζ2) (show Gives cfg (68:FuncId) ζ6 (.tuple ζ2)from m2)<|.ff<|.callI a1<|.ff<|.bin (show binA .mul (.int .i64 ↑r) (.int .i64 ↑y)=some (.int .i64 ↑G)from mG)<|.bin (show binA .quo (.int .i64 ↑G) (.int .i64 1000)=some (.int .i64 ↑F)from qG)<|.callI a2<|.tt<|.fin ((.ret (.tuple [.int .i64 0,.int .i64 0,.int .i64 ((0:Int),(5:Int)).snd]),{boxes:=[],toks:=[],loops:=[]:Heap})) rfl) (by kernel_rfl)
     ·rw[toldN (by omega)]at a2
      rw[toldN (by omega)]
      refine⟨(Z:Int),Gives.run (l104 _ _) ?_⟩
      generalize S+F=U at a2⊢
      exact let ζ1:List AV:=[.int .i64 ((↑N:Int),(0:Int)).fst,.int .i64 ((↑N:Int),(0:Int)).snd];let ζ2:List AV:=[.int .i64 ((↑M:Int),(0:Int)).fst,.int .i64 ((↑M:Int),(0:Int)).snd];let ζ3:List AV:=[.int .i64 ((↑S:Int),(0:Int)).fst,.int .i64 ((↑S:Int),(0:Int)).snd];let ζ4:List AV:=[.int .i64 ((↑U:Int),(0:Int)).fst,.int .i64 ((↑U:Int),(0:Int)).snd];let ζ5:List AV:=[.int .i64 ↑A,.int .i64 ↑x];let ζ6:List AV:=[.int .i64 ↑q,.int .i64 ↑y];goG 200 [] trivial (.ff<|.ff<|.bin (show binA .quo (.int .i64 ↑A) (.int .i64 1000)=some (.int .i64 ↑q)from q1)<|.bin (show binA .rem (.int .i64 ↑A) (.int .i64 1000)=some (.int .i64 ↑r)from r1)<|.bin (show binA .quo (.int .i64 ↑P) (.int .i64 1000)=some (.int .i64 ↑x)from q2)<|.bin (show binA .rem (.int .i64 ↑P) (.int .i64 1000)=some (.int .i64 ↑y)from r2)<|.callK (ζ5) (.tuple ζ1) (show Gives cfg (68:FuncId) ζ5 (.tuple ζ1)from m1)<|.ff<|.callK (ζ6) (.tuple ζ2) (show Gives cfg (68:FuncId) ζ6 (.tuple ζ2)from m2)<|.ff<|.callI a1<|.ff<|.bin (show binA .mul (.int .i64 ↑r) (.int .i64 ↑y)=some (.int .i64 ↑G)from mG)<|.bin (show binA .quo (.int .i64 ↑G) (.int .i64 1000)=some (.int .i64 ↑F)from qG)<|.callI a2<|.ff<|.bin (show binA .mul (.int .i64 ↑r) (.int .i64 ↑y)=some (.int .i64 ↑G)from mG)<|.bin (show binA .rem (.int .i64 ↑G) (.int .i64 1000)=some (.int .i64 ↑Z)from rG)<|.fin ((.ret (.tuple [.int .i64 ((↑U:Int),(0:Int)).fst,.int .i64 ↑Z,.int .i64 0]),{boxes:=[],toks:=[],loops:=[]:Heap})) rfl) (by kernel_rfl)
 ·have e:partQ a p=(0,1):=by
   have:bothE a p=1:=by unfold bothE at he⊢;grind
   simp[partQ,this]
  rw[e]
  refine⟨0,Gives.run (l104 _ _) ?_⟩
  have hor:a<0∨p<0:=by unfold bothE at he;grind
  by_cases h1:a<0
  ·exact goG 60 [] trivial (.yes (show(decide (a<(0:Int)))=true from decide_eq_true (by exact h1))<|.tt<|.fin ((.ret (.tuple [.int .i64 0,.int .i64 0,.int .i64 1]),{boxes:=[],toks:=[],loops:=[]:Heap})) rfl) (by kernel_rfl)
  ·have h2:p<0:=by omega
   exact goG 60 [] trivial (.no (show(decide (a<(0:Int)))=false from decide_eq_false (by exact h1))<|.yes (show(decide (p<(0:Int)))=true from decide_eq_true (by exact h2))<|.fin ((.ret (.tuple [.int .i64 0,.int .i64 0,.int .i64 1]),{boxes:=[],toks:=[],loops:=[]:Heap})) rfl) (by kernel_rfl)
theorem qpart_ref(a p:Int)(ha:inI a)(hp:inI p):Gives cfg 71 [.int .i64 a,.int .i64 p] (.tuple [.int .i64 (partQ a p).1,.int .i64 (partQ a p).2]):=by
 obtain⟨t,h⟩:=part_ref a p ha hp
 refine Gives.run (l71 _ _) ?_
 generalize partQ a p=z at h⊢
 exact let ζ1:List AV:=[.int .i64 z.fst,.int .i64 t,.int .i64 z.snd];goG 60 [] trivial (.callI h<|.fin ((.ret (.tuple [.int .i64 z.fst,.int .i64 z.snd]),{boxes:=[],toks:=[],loops:=[]:Heap})) rfl) (by kernel_rfl)
end Go.Aa.T
set_option linter.unusedVariables false
set_option linter.unusedSimpArgs false
set_option maxRecDepth 100000
namespace Go.Aa.T
open Go.Aa Go.Proofs
structure Pod where
 name:List UInt8
 owner:List UInt8
 prio:Int
 need:List Amount
 labels:List Pair
 sel:List Term
 tols:List Tol
 key:List UInt8
 most:Int
 node:List UInt8
 hold:Bool
theorem firstE_zero:∀{l:List Int},firstE l=0→∀x∈l,x=0
 |[],_=>by simp
 |x::l,h=>by
  unfold firstE at h
  split at h
  ·intro y hy
   rcases List.mem_cons.1 hy with rfl|hy
   ·assumption
   ·exact firstE_zero h y hy
  ·contradiction
structure PodOk(p:Pod):Prop where
 name:isName p.name=true
 owner:p.owner=[]∨isName p.owner=true
 prio: -1≤p.prio∧p.prio≤1000000
 hold:p.hold=decide (p.prio= -1)
 need:ckV p.need=0
 labels:ckS p.labels=0
 sel:ckM p.sel=0
 tols:ckL p.tols=0
 key:p.key=[]∨isName p.key=true
 most:0≤p.most∧p.most≤128∧(p.key=[]↔p.most=0)
 node:p.node=[]∨isName p.node=true
end Go.Aa.T
set_option linter.unusedVariables false
set_option linter.unusedSimpArgs false
set_option maxRecDepth 100000
namespace Go.Aa.T
open Go.Aa Go.Proofs
structure VOk(v:List Amount):Prop where
 len:v.length≤8
 name:∀x∈v,isName x.name=true
 pos:∀x∈v,0<x.n
 rise:Rise (nms v)
theorem ckVl_ok{s:List Amount}:∀{post:List Amount}{i:Nat},ckVl s i post=0→s.drop i=post→(∀x∈post,isName x.name=true∧0<x.n)∧Rise (nms post)∧∀j p,i=j+1→s[j]?=some p→Rise (p.name::nms post)
 |[],i,h,hd=>⟨by simp,by simp[Rise],fun j p _ _=>by simp[Rise]⟩
 |x::post,i,h,hd=>by
  unfold ckVl at h
  split at h
  ·rename_i hn
   split at h
   ·cases h
   ·rename_i hp
    split at h
    ·cases h
    ·rename_i ho
     obtain⟨h1,h2,h3⟩:=ckVl_ok h (drop_next hd)
     have h4:=h3 i x rfl (drop_at hd)
     refine⟨fun y hy=> ?_,h4,fun j p hj hp'=> ?_⟩
     ·rcases List.mem_cons.1 hy with rfl|hy
      ·exact⟨hn,by omega⟩
      ·exact h1 y hy
     ·subst hj
      simp only[ordV,hp',Bool.not_eq_true]at ho
      have h5:=bl_not ho
      refine List.Pairwise.cons (fun z hz=> ?_) h4
      rcases List.mem_cons.1 hz with rfl|hz
      ·exact h5
      ·exact bl_trans h5 (List.rel_of_pairwise_cons h4 hz)
  ·cases h
theorem vOk{v:List Amount}(h:ckV v=0):VOk v:=by
 unfold ckV at h
 split at h
 ·rename_i hl
  obtain⟨h1,h2,-⟩:=ckVl_ok h rfl
  exact⟨hl,fun x hx=>(h1 x hx).1,fun x hx=>(h1 x hx).2,h2⟩
 ·cases h
theorem ckVl_of{s:List Amount}:∀{post:List Amount}{i:Nat},s.drop i=post→(∀x∈s,isName x.name=true)→(∀x∈s,0<x.n)→Rise (nms s)→ckVl s i post=0
 |[],i,hd,_,_,_=>rfl
 |x::post,i,hd,h1,h2,h3=>by
  have hx:=drop_mem hd
  have ih:=ckVl_of (drop_next hd) h1 h2 h3
  have hp:=h2 x hx
  have ho:ordV s i x=false:=by
   cases i with
   |zero=>rfl
   |succ j=>
    have hlt:=drop_lt hd
    have hj:s[j]?=some (s[j]'(by omega)):=List.getElem?_eq_getElem _
    simp only[ordV,hj]
    have h4:=List.pairwise_iff_getElem.1 h3 j (j+1) (by simp;omega) (by simp;omega) (by omega)
    simp only[List.getElem_map]at h4
    have e:s[j+1]=x:=by
     have:=drop_at hd
     rw[List.getElem?_eq_getElem hlt]at this
     exact Option.some.inj this
    rw[e]at h4
    exact bl_asym h4
  unfold ckVl
  rw[if_pos (h1 x hx),if_neg (by omega),ho,if_neg (by simp)]
  exact ih
theorem ckV_of{v:List Amount}(h:VOk v):ckV v=0:=by
 unfold ckV
 rw[if_pos h.len]
 exact ckVl_of rfl h.name h.pos h.rise
theorem getQ_none{v:List Amount}{s:List UInt8}(h:s∉nms v):getQ v s=0:=by
 unfold getQ
 have:v.find? (fun x=>x.name==s)=none:=by
  rw[List.find?_eq_none]
  intro x hx e
  exact h (List.mem_map.2 ⟨x,hx,by simpa using e⟩)
 rw[this]
theorem getQ_some{v:List Amount}{s:List UInt8}(h:s∈nms v):∃x∈v,x.name=s∧getQ v s=x.n:=by
 unfold getQ
 cases hf:v.find? (fun x=>x.name==s)with
 |none=>
  obtain⟨x,hx,rfl⟩:=List.mem_map.1 h
  have:=List.find?_eq_none.1 hf x hx
  simp at this
 |some x=>exact⟨x,List.mem_of_find?_eq_some hf,by simpa using List.find?_some hf,rfl⟩
theorem getQ_pos{v:List Amount}(h:VOk v){s:List UInt8}(hs:s∈nms v):0<getQ v s:=by
 obtain⟨x,hx,-,e⟩:=getQ_some hs
 rw[e];exact h.pos x hx
theorem getQ_nn{v:List Amount}(h:VOk v)(s:List UInt8):0≤getQ v s:=by
 by_cases hs:s∈nms v
 ·have:=getQ_pos h hs;omega
 ·rw[getQ_none hs];exact Int.le_refl _
def madeA(g:OfQ):List (List UInt8)→List Amount→List Amount×Int
 |[],acc=>(acc,0)
 |s::r,acc=>if(g s).2=0 then madeA g r (acc++[⟨s,(g s).1⟩])else([],(g s).2)
theorem madeA_eq(g:OfQ):∀(l:List (List UInt8))(acc:List Amount),(∀s∈l,(g s).2=0→0<(g s).1)→madeA g l acc=madeF g l acc
 |[],acc,_=>rfl
 |s::r,acc,h=>by
  unfold madeA madeF
  split
  ·rename_i h0
   rw[if_pos (h s (by simp) h0)]
   exact madeA_eq g r _ fun t ht=>h t (by simp[ht])
  ·rfl
theorem both_ref(a b:List Amount):Gives cfg 59 [.sl .sh (a.map encA),.sl .sh (b.map encA)] (.int .i64 (firstE [ckV a,ckV b])):=by
 refine Gives.run (l59 _ _) ?_
 have h1:=ckV_ref a
 have h2:=ckV_ref b
 generalize ckV a=p at h1⊢
 generalize ckV b=q at h2⊢
 by_cases h0:p=0
 ·have e:firstE [p,q]=q:=by simp only[firstE,h0,if_true];split<;>simp_all
  rw[e]
  exact goG 60 [] trivial (.callI h1<|.no (show(p !=(0:Int))=false from Bool.eq_false_iff.2 (by simpa using h0))<|.callI h2<|.fin ((.ret (.int .i64 q),{boxes:=[],toks:=[],loops:=[]:Heap})) rfl) (by kernel_rfl)
 ·have e:firstE [p,q]=p:=by simp[firstE,h0]
  rw[e]
  exact goG 60 [] trivial (.callI h1<|.yes (show(p !=(0:Int))=true from(by simpa using h0))<|.fin ((.ret (.int .i64 p),{boxes:=[],toks:=[],loops:=[]:Heap})) rfl) (by kernel_rfl)
theorem whole_ok(l:List Amount)(hl:l.length≤8):Gives cfg 62 [.sl .sh (l.map encA)] (.tuple [.sl .sh (l.map encA),.int .i64 0]):=by
 refine Gives.run (l62 _ _) ?_
 exact goG 60 [] trivial (.len (show lenA false (.sl .sh (l.map encA))=some (.int .i64 (↑l.length))from len_map _)<|.no (show(decide ((8:Int)<(↑l.length:Int)))=false from decide_eq_false (by omega))<|.fin ((.ret (.tuple [.sl .sh (l.map encA),.int .i64 0]),{boxes:=[],toks:=[],loops:=[]:Heap})) rfl) (by kernel_rfl)
theorem whole_long(l:List Amount)(hl:8<l.length):Gives cfg 62 [.sl .sh (l.map encA)] (.tuple [.sl .full [],.int .i64 4]):=by
 refine Gives.run (l62 _ _) ?_
 exact goG 60 [] trivial (.len (show lenA false (.sl .sh (l.map encA))=some (.int .i64 (↑l.length))from len_map _)<|.yes (show(decide ((8:Int)<(↑l.length:Int)))=true from decide_eq_true (by omega))<|.fin ((.ret (.tuple [.sl .full [],.int .i64 4]),{boxes:=[],toks:=[],loops:=[]:Heap})) rfl) (by kernel_rfl)
def kq:Bool→SK
 |true=>.sh
 |false=>.full
instance(c:Bool)(l:List AV):Shut (.sl (kq c) l) (.sl .sh l):=⟨by cases c<;>exact⟨rfl,rfl⟩⟩
def resV(c:Bool)(p:List Amount×Int):AV:=.tuple [.sl (kq c) (p.1.map encA),.int .i64 p.2]
instance(c:Bool)(p:List Amount×Int):Res (resV c p) (.tuple [.sl .sh (p.1.map encA),.int .i64 p.2]):=⟨by
 cases c<;>exact⟨rfl,rfl⟩⟩
def resW(c:Bool)(l:List Amount)(e:Int):AV:=.tuple [.sl (kq c) (l.map encA),.int .i64 e]
instance(c:Bool)(l:List Amount)(e:Int):Res (resW c l e) (.tuple [.sl .sh (l.map encA),.int .i64 e]):=⟨by
 cases c<;>exact⟨rfl,rfl⟩⟩
def RetV(p:List Amount×Int)(r:ARes×Heap):Prop:=∃c,IsRet (resV c p) r
theorem RetV.gives{g:FuncId}{xs:List AV}{p:List Amount×Int}{A:AFunc}{k:List AIt}{T:Env}(e:lim cfg (.fn g) xs Heap.nil=runL cfg A k T Heap.nil)(h:Goes cfg A k T Heap.nil (RetV p)):∃c,Gives cfg g xs (resV c p):=by
 obtain⟨r,h1,c,h2⟩:=h
 exact⟨c,Gives.run e ⟨r,h1,h2⟩⟩
theorem fin_no(e:Int)(h:e≠0):finV ([],e)=([],e):=by simp[finV,h]
theorem addR_loop(a b:List Amount)(la:a.length<9223372036854775807)(lb:b.length<9223372036854775807)(ra:∀s,inI (getQ a s))(rb:∀s,inI (getQ b s))(ns:List (List UInt8))(hns:ns.length≤100000):∀(post:List (List UInt8))(i:Nat)(hd:ns.drop i=post)(acc:List Amount)(ha:acc.length≤i)(T:Env)
 (hT:Has T [(0,.sl .sh (a.map encA)),(1,.sl .sh (b.map encA)),(7,.sl .sh (ns.map .str)),(8,rowS Heap.nil (acc.map encA)),(9,.int .i64 i)]),
 Goes cfg a22 k22_0 T (rowH Heap.nil (acc.map encA)) (RetV (finV (madeA (fun s=>addQ (getQ a s) (getQ b s)) post acc))):=by
 intro post
 induction post with
 |nil=>
  intro i hd acc ha T hT
  have hge:=drop_ge hd
  have e:madeA (fun s=>addQ (getQ a s) (getQ b s)) [] acc=(acc,0):=rfl
  rw[e]
  by_cases h8:8<acc.length
  ·have e:finV (acc,0)=([],4):=by simp[finV,h8]
   rw[e]
   have hw:=whole_long acc h8
   exact goG 90 _ hT (.len (show lenA false (.sl .sh (List.map .str ns))=some (.int .i64 (↑ns.length))from len_map _)<|.no (show(decide ((↑i:Int)<(↑ns.length:Int)))=false from decide_eq_false (by omega))<|.callG ([rowS Heap.nil (acc.map encA)]) (.tuple [.sl .sh [],.int .i64 4]) (show Gives cfg (62:FuncId) [.sl .sh (acc.map encA)] (.tuple [.sl .full [],.int .i64 4])from hw) Shuts.p ⟨rfl,rfl⟩<|.fin ((.ret (.tuple [.sl .sh [],.int .i64 4]),rowH Heap.nil (acc.map encA))) (by exact⟨true,rfl⟩)) (by kernel_rfl)
  ·have e:finV (acc,0)=(acc,0):=by simp[finV,h8]
   rw[e]
   have hw:=whole_ok acc (by omega)
   exact let ζ1:List AV:=[.sl .sh (acc.map encA),.int .i64 0];goG 90 _ hT (.len (show lenA false (.sl .sh (List.map .str ns))=some (.int .i64 (↑ns.length))from len_map _)<|.no (show(decide ((↑i:Int)<(↑ns.length:Int)))=false from decide_eq_false (by omega))<|.callG ([rowS Heap.nil (acc.map encA)]) (.tuple ζ1) (show Gives cfg (62:FuncId) [.sl .sh (acc.map encA)] (.tuple ζ1)from hw) Shuts.p ⟨rfl,rfl⟩<|.fin ((.ret (.tuple ζ1),rowH Heap.nil (acc.map encA))) (by exact⟨true,rfl⟩)) (by kernel_rfl)
 |cons s post ih=>
  intro i hd acc ha T hT
  have hlt:=drop_lt hd
  have hnx:=drop_next hd
  have hx:idxA 1 (.sl .sh (ns.map .str)) (.int .i64 (i:Nat))=some (.ref [.str s]):=idx_row (f:=AV.str) hd rfl
  have g1:=getQ_ref a s la
  have g2:=getQ_ref b s lb
  have g3:=qadd_ref _ _ (ra s) (rb s)
  have e:madeA (fun s=>addQ (getQ a s) (getQ b s)) (s::post) acc=if(addQ (getQ a s) (getQ b s)).2=0 then madeA (fun s=>addQ (getQ a s) (getQ b s)) post (acc++[⟨s,(addQ (getQ a s) (getQ b s)).1⟩])else([],(addQ (getQ a s) (getQ b s)).2):=rfl
  rw[e]
  have ih1:=fun acc'=>ih (i+1) hnx acc'
  generalize getQ a s=p at g1 g3⊢
  generalize getQ b s=q at g2 g3⊢
  generalize addQ p q=z at g3⊢
  obtain⟨n,er⟩:=z
  simp only at g3⊢
  by_cases h0:er=0
  ·subst h0
   rw[if_pos rfl]
   have ap:∀H,appendA 2 24 (rowH H (acc.map encA)) (rowS H (acc.map encA)) (.sl .full [.agg [.str s,.int .i64 n]])=some (rowS H ((acc++[(⟨s,n⟩:Amount)]).map encA),rowH H ((acc++[(⟨s,n⟩:Amount)]).map encA)):=fun H=>row_append_map (f:=encA) (x:=(⟨s,n⟩:Amount)) (ys:=acc) (by simp;omega) lenA2 rfl rfl
   have ih':=ih1 (acc++[(⟨s,n⟩:Amount)]) (by simp;omega)
   exact let ζ1:Heap:=(roomH (rowH Heap.nil (acc.map encA)) (resvCells [mV 28 0,mV 29 7,mV 30 9,⟨some 31,.idx (1:Nat) (.t 29) (.t 30),none,[2,1]⟩,⟨some 32,.load false (1:Nat) (.t 31),none,[1,2,3]⟩,⟨some 33,.call (.c (.func (37:FuncId) [])) [.t 28,.t 32],none,[3,2,1,4,0]⟩,mV 34 1,mV 35 7,mV 36 9,⟨some 37,.idx (1:Nat) (.t 35) (.t 36),none,[8,7]⟩,⟨some 38,.load false (1:Nat) (.t 37),none,[7,8,9]⟩,⟨some 39,.call (.c (.func (37:FuncId) [])) [.t 34,.t 38],none,[0,4,1,2,3,5,9,8,7,10,6]⟩,⟨some 40,.call (.c (.func (61:FuncId) [])) [.t 33,.t 39],none,[6,10,7,8,9,11,0,4,1,2,3,5]⟩,⟨some 27,.mov (.t 40),none,[5,3,2,1,4,0,11,9,8,7,10,6,12]⟩,⟨some 41,.extract (.t 27) (0:Nat),none,[12,6,10,7,8,9,11,0,4,1,2,3,5,13]⟩,⟨some 42,.extract (.t 27) (1:Nat),none,[12,6,10,7,8,9,11,0,4,1,2,3,5,13]⟩,⟨some 10,.mov (.t 41),none,[13,5,3,2,1,4,0,11,9,8,7,10,6,12,14]⟩,⟨some 11,.mov (.t 42),none,[14,16,13,5,3,2,1,4,0,11,9,8,7,10,6,12,15]⟩]));let ζ2:List AV:=[.sl .sh (a.map encA),.str s];let ζ3:List AV:=[.sl .sh (b.map encA),.str s];goG 120 _ hT (.len (show lenA false (.sl .sh (List.map .str ns))=some (.int .i64 (↑ns.length))from len_map _)<|.yes (show(decide ((↑i:Int)<(↑ns.length:Int)))=true from decide_eq_true (by omega))<|.idx (show idxA 1 (.sl .sh (List.map .str ns)) (.int .i64 ↑i)=some (.ref [.str s])from hx)<|.load (show loadA false 1 ζ1 (.ref [.str s])=some (.str s)from rfl)<|.callK (ζ2) (.int .i64 p) (show Gives cfg (37:FuncId) ζ2 (.int .i64 p)from g1)<|.idx (show idxA 1 (.sl .sh (List.map .str ns)) (.int .i64 ↑i)=some (.ref [.str s])from hx)<|.load (show loadA false 1 ζ1 (.ref [.str s])=some (.str s)from rfl)<|.callK (ζ3) (.int .i64 q) (show Gives cfg (37:FuncId) ζ3 (.int .i64 q)from g2)<|.callI g3<|.ff<|.idx (show idxA 1 (.sl .sh (List.map .str ns)) (.int .i64 ↑i)=some (.ref [.str s])from hx)<|.load (show loadA false 1 ζ1 (.ref [.str s])=some (.str s)from rfl)<|.append (show appendA (2:Nat) (24:Nat) ζ1 (rowS Heap.nil (acc.map encA)) (.sl .full [.agg [.str s,.int .i64 n]])=some ((rowS Heap.nil (List.map encA (acc++[{name:=s,n:=n:Amount}])),rowH Heap.nil (List.map encA (acc++[{name:=s,n:=n:Amount}]))))from ap _)<|.bin (show binA .add (.int .i64 ↑i) (.int .i64 1)=some (.int .i64 (↑(i+1)))from inc_i (by omega))<|.cutQ k22_0 [(0,.sl .sh (a.map encA)),(1,.sl .sh (b.map encA)),(7,.sl .sh (List.map .str ns)),(8,rowS Heap.nil (List.map encA (acc++[{name:=s,n:=n:Amount}]))),(9,.int .i64 (↑(i+1)))] (rowH Heap.nil (List.map encA (acc++[{name:=s,n:=n:Amount}]))) (fun T hT=>(ih' T hT))) (by kernel_rfl)
  ·rw[if_neg h0,fin_no _ h0]
   exact let ζ1:Heap:=(roomH (rowH Heap.nil (acc.map encA)) (resvCells [mV 28 0,mV 29 7,mV 30 9,⟨some 31,.idx (1:Nat) (.t 29) (.t 30),none,[2,1]⟩,⟨some 32,.load false (1:Nat) (.t 31),none,[1,2,3]⟩,⟨some 33,.call (.c (.func (37:FuncId) [])) [.t 28,.t 32],none,[3,2,1,4,0]⟩,mV 34 1,mV 35 7,mV 36 9,⟨some 37,.idx (1:Nat) (.t 35) (.t 36),none,[8,7]⟩,⟨some 38,.load false (1:Nat) (.t 37),none,[7,8,9]⟩,⟨some 39,.call (.c (.func (37:FuncId) [])) [.t 34,.t 38],none,[0,4,1,2,3,5,9,8,7,10,6]⟩,⟨some 40,.call (.c (.func (61:FuncId) [])) [.t 33,.t 39],none,[6,10,7,8,9,11,0,4,1,2,3,5]⟩,⟨some 27,.mov (.t 40),none,[5,3,2,1,4,0,11,9,8,7,10,6,12]⟩,⟨some 41,.extract (.t 27) (0:Nat),none,[12,6,10,7,8,9,11,0,4,1,2,3,5,13]⟩,⟨some 42,.extract (.t 27) (1:Nat),none,[12,6,10,7,8,9,11,0,4,1,2,3,5,13]⟩,⟨some 10,.mov (.t 41),none,[13,5,3,2,1,4,0,11,9,8,7,10,6,12,14]⟩,⟨some 11,.mov (.t 42),none,[14,16,13,5,3,2,1,4,0,11,9,8,7,10,6,12,15]⟩]));let ζ2:List AV:=[.sl .sh (a.map encA),.str s];let ζ3:List AV:=[.sl .sh (b.map encA),.str s];goG 120 _ hT (.len (show lenA false (.sl .sh (List.map .str ns))=some (.int .i64 (↑ns.length))from len_map _)<|.yes (show(decide ((↑i:Int)<(↑ns.length:Int)))=true from decide_eq_true (by omega))<|.idx (show idxA 1 (.sl .sh (List.map .str ns)) (.int .i64 ↑i)=some (.ref [.str s])from hx)<|.load (show loadA false 1 ζ1 (.ref [.str s])=some (.str s)from rfl)<|.callK (ζ2) (.int .i64 p) (show Gives cfg (37:FuncId) ζ2 (.int .i64 p)from g1)<|.idx (show idxA 1 (.sl .sh (List.map .str ns)) (.int .i64 ↑i)=some (.ref [.str s])from hx)<|.load (show loadA false 1 ζ1 (.ref [.str s])=some (.str s)from rfl)<|.callK (ζ3) (.int .i64 q) (show Gives cfg (37:FuncId) ζ3 (.int .i64 q)from g2)<|.callI g3<|.yes (show(er !=(0:Int))=true from(by simpa using h0))<|.fin ((.ret (.tuple [.sl .full [],.int .i64 er]),roomH (rowH Heap.nil (acc.map encA)) (resvCells [mV 28 0,mV 29 7,mV 30 9,⟨some 31,.idx (1:Nat) (.t 29) (.t 30),none,[2,1]⟩,⟨some 32,.load false (1:Nat) (.t 31),none,[1,2,3]⟩,⟨some 33,.call (.c (.func (37:FuncId) [])) [.t 28,.t 32],none,[3,2,1,4,0]⟩,mV 34 1,mV 35 7,mV 36 9,⟨some 37,.idx (1:Nat) (.t 35) (.t 36),none,[8,7]⟩,⟨some 38,.load false (1:Nat) (.t 37),none,[7,8,9]⟩,⟨some 39,.call (.c (.func (37:FuncId) [])) [.t 34,.t 38],none,[0,4,1,2,3,5,9,8,7,10,6]⟩,⟨some 40,.call (.c (.func (61:FuncId) [])) [.t 33,.t 39],none,[6,10,7,8,9,11,0,4,1,2,3,5]⟩,⟨some 27,.mov (.t 40),none,[5,3,2,1,4,0,11,9,8,7,10,6,12]⟩,⟨some 41,.extract (.t 27) (0:Nat),none,[12,6,10,7,8,9,11,0,4,1,2,3,5,13]⟩,⟨some 42,.extract (.t 27) (1:Nat),none,[12,6,10,7,8,9,11,0,4,1,2,3,5,13]⟩,⟨some 10,.mov (.t 41),none,[13,5,3,2,1,4,0,11,9,8,7,10,6,12,14]⟩,⟨some 11,.mov (.t 42),none,[14,16,13,5,3,2,1,4,0,11,9,8,7,10,6,12,15]⟩]))) (by exact⟨false,rfl⟩)) (by kernel_rfl)
theorem subR_loop(a b:List Amount)(la:a.length<9223372036854775807)(lb:b.length<9223372036854775807)(ra:∀s,inI (getQ a s))(rb:∀s,inI (getQ b s))(ns:List (List UInt8))(hns:ns.length≤100000):∀(post:List (List UInt8))(i:Nat)(hd:ns.drop i=post)(acc:List Amount)(ha:acc.length≤i)(T:Env)
 (hT:Has T [(0,.sl .sh (a.map encA)),(1,.sl .sh (b.map encA)),(7,.sl .sh (ns.map .str)),(8,rowS Heap.nil (acc.map encA)),(9,.int .i64 i)]),
 Goes cfg a25 k25_0 T (rowH Heap.nil (acc.map encA)) (RetV (finV (madeF (fun s=>subQ (getQ a s) (getQ b s)) post acc))):=by
 intro post
 induction post with
 |nil=>
  intro i hd acc ha T hT
  have hge:=drop_ge hd
  have e:madeF (fun s=>subQ (getQ a s) (getQ b s)) [] acc=(acc,0):=rfl
  rw[e]
  by_cases h8:8<acc.length
  ·have e:finV (acc,0)=([],4):=by simp[finV,h8]
   rw[e]
   have hw:=whole_long acc h8
   exact goG 90 _ hT (.len (show lenA false (.sl .sh (List.map .str ns))=some (.int .i64 (↑ns.length))from len_map _)<|.no (show(decide ((↑i:Int)<(↑ns.length:Int)))=false from decide_eq_false (by omega))<|.callG ([rowS Heap.nil (acc.map encA)]) (.tuple [.sl .sh [],.int .i64 4]) (show Gives cfg (62:FuncId) [.sl .sh (acc.map encA)] (.tuple [.sl .full [],.int .i64 4])from hw) Shuts.p ⟨rfl,rfl⟩<|.fin ((.ret (.tuple [.sl .sh [],.int .i64 4]),rowH Heap.nil (acc.map encA))) (by exact⟨true,rfl⟩)) (by kernel_rfl)
  ·have e:finV (acc,0)=(acc,0):=by simp[finV,h8]
   rw[e]
   have hw:=whole_ok acc (by omega)
   exact let ζ1:List AV:=[.sl .sh (acc.map encA),.int .i64 0];goG 90 _ hT (.len (show lenA false (.sl .sh (List.map .str ns))=some (.int .i64 (↑ns.length))from len_map _)<|.no (show(decide ((↑i:Int)<(↑ns.length:Int)))=false from decide_eq_false (by omega))<|.callG ([rowS Heap.nil (acc.map encA)]) (.tuple ζ1) (show Gives cfg (62:FuncId) [.sl .sh (acc.map encA)] (.tuple ζ1)from hw) Shuts.p ⟨rfl,rfl⟩<|.fin ((.ret (.tuple ζ1),rowH Heap.nil (acc.map encA))) (by exact⟨true,rfl⟩)) (by kernel_rfl)
 |cons s post ih=>
  intro i hd acc ha T hT
  have hlt:=drop_lt hd
  have hnx:=drop_next hd
  have hx:idxA 1 (.sl .sh (ns.map .str)) (.int .i64 (i:Nat))=some (.ref [.str s]):=idx_row (f:=AV.str) hd rfl
  have g1:=getQ_ref a s la
  have g2:=getQ_ref b s lb
  have g3:=qsub_ref _ _ (ra s) (rb s)
  have e:madeF (fun s=>subQ (getQ a s) (getQ b s)) (s::post) acc=if(subQ (getQ a s) (getQ b s)).2=0 then madeF (fun s=>subQ (getQ a s) (getQ b s)) post (if 0<(subQ (getQ a s) (getQ b s)).1 then acc++[⟨s,(subQ (getQ a s) (getQ b s)).1⟩]else acc)else([],(subQ (getQ a s) (getQ b s)).2):=rfl
  rw[e]
  have ih1:=fun acc'=>ih (i+1) hnx acc'
  generalize getQ a s=p at g1 g3⊢
  generalize getQ b s=q at g2 g3⊢
  generalize subQ p q=z at g3⊢
  obtain⟨n,er⟩:=z
  simp only at g3⊢
  by_cases h0:er=0
  ·subst h0
   rw[if_pos rfl]
   by_cases hp:0<n
   ·rw[if_pos hp]
    have ap:∀H,appendA 2 24 (rowH H (acc.map encA)) (rowS H (acc.map encA)) (.sl .full [.agg [.str s,.int .i64 n]])=some (rowS H ((acc++[(⟨s,n⟩:Amount)]).map encA),rowH H ((acc++[(⟨s,n⟩:Amount)]).map encA)):=fun H=>row_append_map (f:=encA) (x:=(⟨s,n⟩:Amount)) (ys:=acc) (by simp;omega) lenA2 rfl rfl
    have ih':=ih1 (acc++[(⟨s,n⟩:Amount)]) (by simp;omega)
    exact let ζ1:Heap:=(roomH (rowH Heap.nil (acc.map encA)) (resvCells [mV 28 0,mV 29 7,mV 30 9,⟨some 31,.idx (1:Nat) (.t 29) (.t 30),none,[2,1]⟩,⟨some 32,.load false (1:Nat) (.t 31),none,[1,2,3]⟩,⟨some 33,.call (.c (.func (37:FuncId) [])) [.t 28,.t 32],none,[3,2,1,4,0]⟩,mV 34 1,mV 35 7,mV 36 9,⟨some 37,.idx (1:Nat) (.t 35) (.t 36),none,[8,7]⟩,⟨some 38,.load false (1:Nat) (.t 37),none,[7,8,9]⟩,⟨some 39,.call (.c (.func (37:FuncId) [])) [.t 34,.t 38],none,[0,4,1,2,3,5,9,8,7,10,6]⟩,⟨some 40,.call (.c (.func (65:FuncId) [])) [.t 33,.t 39],none,[6,10,7,8,9,11,0,4,1,2,3,5]⟩,⟨some 27,.mov (.t 40),none,[5,3,2,1,4,0,11,9,8,7,10,6,12]⟩,⟨some 41,.extract (.t 27) (0:Nat),none,[12,6,10,7,8,9,11,0,4,1,2,3,5,13]⟩,⟨some 42,.extract (.t 27) (1:Nat),none,[12,6,10,7,8,9,11,0,4,1,2,3,5,13]⟩,⟨some 10,.mov (.t 41),none,[13,5,3,2,1,4,0,11,9,8,7,10,6,12,14]⟩,⟨some 11,.mov (.t 42),none,[14,16,13,5,3,2,1,4,0,11,9,8,7,10,6,12,15]⟩]));let ζ2:List AV:=[.sl .sh (a.map encA),.str s];let ζ3:List AV:=[.sl .sh (b.map encA),.str s];goG 120 _ hT (.len (show lenA false (.sl .sh (List.map .str ns))=some (.int .i64 (↑ns.length))from len_map _)<|.yes (show(decide ((↑i:Int)<(↑ns.length:Int)))=true from decide_eq_true (by omega))<|.idx (show idxA 1 (.sl .sh (List.map .str ns)) (.int .i64 ↑i)=some (.ref [.str s])from hx)<|.load (show loadA false 1 ζ1 (.ref [.str s])=some (.str s)from rfl)<|.callK (ζ2) (.int .i64 p) (show Gives cfg (37:FuncId) ζ2 (.int .i64 p)from g1)<|.idx (show idxA 1 (.sl .sh (List.map .str ns)) (.int .i64 ↑i)=some (.ref [.str s])from hx)<|.load (show loadA false 1 ζ1 (.ref [.str s])=some (.str s)from rfl)<|.callK (ζ3) (.int .i64 q) (show Gives cfg (37:FuncId) ζ3 (.int .i64 q)from g2)<|.callI g3<|.ff<|.yes (show(decide ((0:Int)<n))=true from decide_eq_true (by exact hp))<|.idx (show idxA 1 (.sl .sh (List.map .str ns)) (.int .i64 ↑i)=some (.ref [.str s])from hx)<|.load (show loadA false 1 ζ1 (.ref [.str s])=some (.str s)from rfl)<|.append (show appendA (2:Nat) (24:Nat) ζ1 (rowS Heap.nil (acc.map encA)) (.sl .full [.agg [.str s,.int .i64 n]])=some ((rowS Heap.nil (List.map encA (acc++[{name:=s,n:=n:Amount}])),rowH Heap.nil (List.map encA (acc++[{name:=s,n:=n:Amount}]))))from ap _)<|.bin (show binA .add (.int .i64 ↑i) (.int .i64 1)=some (.int .i64 (↑(i+1)))from inc_i (by omega))<|.cutQ k25_0 [(0,.sl .sh (a.map encA)),(1,.sl .sh (b.map encA)),(7,.sl .sh (List.map .str ns)),(8,rowS Heap.nil (List.map encA (acc++[{name:=s,n:=n:Amount}]))),(9,.int .i64 (↑(i+1)))] (rowH Heap.nil (List.map encA (acc++[{name:=s,n:=n:Amount}]))) (fun T hT=>(ih' T hT))) (by kernel_rfl)
   ·rw[if_neg hp]
    have ih':=ih1 acc (by omega)
    exact let ζ1:Heap:=(roomH (rowH Heap.nil (acc.map encA)) (resvCells [mV 28 0,mV 29 7,mV 30 9,⟨some 31,.idx (1:Nat) (.t 29) (.t 30),none,[2,1]⟩,⟨some 32,.load false (1:Nat) (.t 31),none,[1,2,3]⟩,⟨some 33,.call (.c (.func (37:FuncId) [])) [.t 28,.t 32],none,[3,2,1,4,0]⟩,mV 34 1,mV 35 7,mV 36 9,⟨some 37,.idx (1:Nat) (.t 35) (.t 36),none,[8,7]⟩,⟨some 38,.load false (1:Nat) (.t 37),none,[7,8,9]⟩,⟨some 39,.call (.c (.func (37:FuncId) [])) [.t 34,.t 38],none,[0,4,1,2,3,5,9,8,7,10,6]⟩,⟨some 40,.call (.c (.func (65:FuncId) [])) [.t 33,.t 39],none,[6,10,7,8,9,11,0,4,1,2,3,5]⟩,⟨some 27,.mov (.t 40),none,[5,3,2,1,4,0,11,9,8,7,10,6,12]⟩,⟨some 41,.extract (.t 27) (0:Nat),none,[12,6,10,7,8,9,11,0,4,1,2,3,5,13]⟩,⟨some 42,.extract (.t 27) (1:Nat),none,[12,6,10,7,8,9,11,0,4,1,2,3,5,13]⟩,⟨some 10,.mov (.t 41),none,[13,5,3,2,1,4,0,11,9,8,7,10,6,12,14]⟩,⟨some 11,.mov (.t 42),none,[14,16,13,5,3,2,1,4,0,11,9,8,7,10,6,12,15]⟩]));let ζ2:List AV:=[.sl .sh (a.map encA),.str s];let ζ3:List AV:=[.sl .sh (b.map encA),.str s];goG 120 _ hT (.len (show lenA false (.sl .sh (List.map .str ns))=some (.int .i64 (↑ns.length))from len_map _)<|.yes (show(decide ((↑i:Int)<(↑ns.length:Int)))=true from decide_eq_true (by omega))<|.idx (show idxA 1 (.sl .sh (List.map .str ns)) (.int .i64 ↑i)=some (.ref [.str s])from hx)<|.load (show loadA false 1 ζ1 (.ref [.str s])=some (.str s)from rfl)<|.callK (ζ2) (.int .i64 p) (show Gives cfg (37:FuncId) ζ2 (.int .i64 p)from g1)<|.idx (show idxA 1 (.sl .sh (List.map .str ns)) (.int .i64 ↑i)=some (.ref [.str s])from hx)<|.load (show loadA false 1 ζ1 (.ref [.str s])=some (.str s)from rfl)<|.callK (ζ3) (.int .i64 q) (show Gives cfg (37:FuncId) ζ3 (.int .i64 q)from g2)<|.callI g3<|.ff<|.no (show(decide ((0:Int)<n))=false from decide_eq_false (by exact hp))<|.bin (show binA .add (.int .i64 ↑i) (.int .i64 1)=some (.int .i64 (↑(i+1)))from inc_i (by omega))<|.cutQ k25_0 [(0,.sl .sh (a.map encA)),(1,.sl .sh (b.map encA)),(7,.sl .sh (List.map .str ns)),(8,rowS Heap.nil (acc.map encA)),(9,.int .i64 (↑(i+1)))] ζ1 (fun T hT=>(ih' T hT))) (by kernel_rfl)
  ·rw[if_neg h0,fin_no _ h0]
   exact let ζ1:Heap:=(roomH (rowH Heap.nil (acc.map encA)) (resvCells [mV 28 0,mV 29 7,mV 30 9,⟨some 31,.idx (1:Nat) (.t 29) (.t 30),none,[2,1]⟩,⟨some 32,.load false (1:Nat) (.t 31),none,[1,2,3]⟩,⟨some 33,.call (.c (.func (37:FuncId) [])) [.t 28,.t 32],none,[3,2,1,4,0]⟩,mV 34 1,mV 35 7,mV 36 9,⟨some 37,.idx (1:Nat) (.t 35) (.t 36),none,[8,7]⟩,⟨some 38,.load false (1:Nat) (.t 37),none,[7,8,9]⟩,⟨some 39,.call (.c (.func (37:FuncId) [])) [.t 34,.t 38],none,[0,4,1,2,3,5,9,8,7,10,6]⟩,⟨some 40,.call (.c (.func (65:FuncId) [])) [.t 33,.t 39],none,[6,10,7,8,9,11,0,4,1,2,3,5]⟩,⟨some 27,.mov (.t 40),none,[5,3,2,1,4,0,11,9,8,7,10,6,12]⟩,⟨some 41,.extract (.t 27) (0:Nat),none,[12,6,10,7,8,9,11,0,4,1,2,3,5,13]⟩,⟨some 42,.extract (.t 27) (1:Nat),none,[12,6,10,7,8,9,11,0,4,1,2,3,5,13]⟩,⟨some 10,.mov (.t 41),none,[13,5,3,2,1,4,0,11,9,8,7,10,6,12,14]⟩,⟨some 11,.mov (.t 42),none,[14,16,13,5,3,2,1,4,0,11,9,8,7,10,6,12,15]⟩]));let ζ2:List AV:=[.sl .sh (a.map encA),.str s];let ζ3:List AV:=[.sl .sh (b.map encA),.str s];goG 120 _ hT (.len (show lenA false (.sl .sh (List.map .str ns))=some (.int .i64 (↑ns.length))from len_map _)<|.yes (show(decide ((↑i:Int)<(↑ns.length:Int)))=true from decide_eq_true (by omega))<|.idx (show idxA 1 (.sl .sh (List.map .str ns)) (.int .i64 ↑i)=some (.ref [.str s])from hx)<|.load (show loadA false 1 ζ1 (.ref [.str s])=some (.str s)from rfl)<|.callK (ζ2) (.int .i64 p) (show Gives cfg (37:FuncId) ζ2 (.int .i64 p)from g1)<|.idx (show idxA 1 (.sl .sh (List.map .str ns)) (.int .i64 ↑i)=some (.ref [.str s])from hx)<|.load (show loadA false 1 ζ1 (.ref [.str s])=some (.str s)from rfl)<|.callK (ζ3) (.int .i64 q) (show Gives cfg (37:FuncId) ζ3 (.int .i64 q)from g2)<|.callI g3<|.yes (show(er !=(0:Int))=true from(by simpa using h0))<|.fin ((.ret (.tuple [.sl .full [],.int .i64 er]),roomH (rowH Heap.nil (acc.map encA)) (resvCells [mV 28 0,mV 29 7,mV 30 9,⟨some 31,.idx (1:Nat) (.t 29) (.t 30),none,[2,1]⟩,⟨some 32,.load false (1:Nat) (.t 31),none,[1,2,3]⟩,⟨some 33,.call (.c (.func (37:FuncId) [])) [.t 28,.t 32],none,[3,2,1,4,0]⟩,mV 34 1,mV 35 7,mV 36 9,⟨some 37,.idx (1:Nat) (.t 35) (.t 36),none,[8,7]⟩,⟨some 38,.load false (1:Nat) (.t 37),none,[7,8,9]⟩,⟨some 39,.call (.c (.func (37:FuncId) [])) [.t 34,.t 38],none,[0,4,1,2,3,5,9,8,7,10,6]⟩,⟨some 40,.call (.c (.func (65:FuncId) [])) [.t 33,.t 39],none,[6,10,7,8,9,11,0,4,1,2,3,5]⟩,⟨some 27,.mov (.t 40),none,[5,3,2,1,4,0,11,9,8,7,10,6,12]⟩,⟨some 41,.extract (.t 27) (0:Nat),none,[12,6,10,7,8,9,11,0,4,1,2,3,5,13]⟩,⟨some 42,.extract (.t 27) (1:Nat),none,[12,6,10,7,8,9,11,0,4,1,2,3,5,13]⟩,⟨some 10,.mov (.t 41),none,[13,5,3,2,1,4,0,11,9,8,7,10,6,12,14]⟩,⟨some 11,.mov (.t 42),none,[14,16,13,5,3,2,1,4,0,11,9,8,7,10,6,12,15]⟩]))) (by exact⟨false,rfl⟩)) (by kernel_rfl)
theorem names_two{a b:List Amount}(ha:ckV a=0)(hb:ckV b=0):namesOf (allNames [a,b])=mergeN (nms a) (nms b):=by
 have e:allNames [a,b]=nms a++nms b:=by simp[allNames]
 rw[e]
 exact merge_names (vOk ha).rise (vOk hb).rise
theorem two_ok{a b:List Amount}(h:firstE [ckV a,ckV b]=0):ckV a=0∧ckV b=0:=by
 have:=firstE_zero h
 simpa using this
theorem merge_len(a b:List (List UInt8)):(mergeN a b).length≤a.length+b.length:=by
 have:∀(n:Nat)(a b:List (List UInt8)),a.length+b.length≤n→(mergeN a b).length≤a.length+b.length:=by
  intro n
  induction n with
  |zero=>
   intro a b h
   obtain rfl:a=[]:=List.length_eq_zero_iff.1 (by omega)
   simp[merge_nil]
  |succ n ih=>
   intro a b h
   cases a with
   |nil=>simp[merge_nil]
   |cons p a=>
    cases b with
    |nil=>simp[merge_nil2]
    |cons q b=>
     simp only[List.length_cons]at h
     rw[mergeN]
     split
     ·have:=ih a (q::b) (by simp;omega)
      simp at this⊢;omega
     ·split
      ·have:=ih (p::a) b (by simp;omega)
       simp at this⊢;omega
      ·have:=ih a b (by omega)
       simp;omega
 exact this _ a b (Nat.le_refl _)
instance(l:List (List UInt8)):Shut (rowT l) (.sl .sh (l.map .str)):=inferInstanceAs(Shut (rowS Heap.nil (l.map .str)) _)
theorem addQ_pos{a b:List Amount}(ha:VOk a)(hb:VOk b){s:List UInt8}(hs:s∈mergeN (nms a) (nms b))(h0:(addQ (getQ a s) (getQ b s)).2=0):0<(addQ (getQ a s) (getQ b s)).1:=by
 have p:=getQ_nn ha s
 have q:=getQ_nn hb s
 have hpq:0<getQ a s+getQ b s:=by
  rcases(merge_mem _ _ _ (Nat.le_refl _) s).1 hs with h|h
  ·have:=getQ_pos ha h;omega
  ·have:=getQ_pos hb h;omega
 have hb0:bothE (getQ a s) (getQ b s)=0:=by
  unfold bothE;rw[if_neg (by omega),if_neg (by omega)]
 unfold addQ at h0⊢
 rw[if_neg (by simp[hb0])]at h0⊢
 unfold toldQ at h0⊢
 split
 ·rename_i h;rw[if_pos h]at h0;cases h0
 ·exact hpq
theorem addR(a b:List Amount)(la:a.length<9223372036854775807)(lb:b.length<9223372036854775807)(ra:rgA a)(rb:rgA b):∃c,Gives cfg 22 [.sl .sh (a.map encA),.sl .sh (b.map encA)] (resV c (addV a b)):=by
 refine RetV.gives (l22 _ _) ?_
 have h0:=both_ref a b
 have e:addV a b=if firstE [ckV a,ckV b]=0 then finV (madeF (fun s=>addQ (getQ a s) (getQ b s)) (namesOf (allNames [a,b])) [])else([],firstE [ckV a,ckV b]):=rfl
 rw[e]
 by_cases hc:firstE [ckV a,ckV b]=0
 ·rw[if_pos hc]
  rw[hc]at h0
  obtain⟨ca,cb⟩:=two_ok hc
  have oa:=vOk ca
  have ob:=vOk cb
  have hn:=names_ref a b (by have:=oa.len;omega) (by have:=ob.len;omega)
  rw[names_two ca cb]
  have hml:(mergeN (nms a) (nms b)).length≤100000:=by
   have:=merge_len (nms a) (nms b)
   have:=oa.len;have:=ob.len
   simp only[List.length_map]at*
   omega
  have hl:=addR_loop a b la lb (rg_get ra) (rg_get rb) (mergeN (nms a) (nms b)) hml (mergeN (nms a) (nms b)) 0 rfl [] (by simp)
  rw[madeA_eq _ _ _ fun s hs h=>addQ_pos oa ob hs h]at hl
  generalize mergeN (nms a) (nms b)=ns at hn hl⊢
  exact let ζ1:List AV:=[.sl .sh (a.map encA),.sl .sh (b.map encA)];goG 90 [] trivial (.callK (ζ1) (.int .i64 0) (show Gives cfg (59:FuncId) ζ1 (.int .i64 0)from h0)<|.ff<|.callG (ζ1) (.sl .sh (List.map .str ns)) (show Gives cfg (60:FuncId) ζ1 (rowT ns)from hn) ⟨rfl,rfl⟩ Res.p<|.cutQ k22_0 [(0,.sl .sh (a.map encA)),(1,.sl .sh (b.map encA)),(7,.sl .sh (List.map .str ns)),(8,.sl .full []),(9,.int .i64 0)] ({boxes:=[],toks:=[],loops:=[]:Heap}) (fun T hT=>(hl T hT))) (by kernel_rfl)
 ·rw[if_neg hc]
  generalize firstE [ckV a,ckV b]=c at h0 hc⊢
  exact let ζ1:List AV:=[.sl .sh (a.map encA),.sl .sh (b.map encA)];goG 90 [] trivial (.callK (ζ1) (.int .i64 c) (show Gives cfg (59:FuncId) ζ1 (.int .i64 c)from h0)<|.yes (show(c !=(0:Int))=true from(by simpa using hc))<|.fin ((.ret (.tuple [.sl .full [],.int .i64 c]),{boxes:=[],toks:=[],loops:=[]:Heap})) (by exact⟨false,rfl⟩)) (by kernel_rfl)
theorem subR(a b:List Amount)(la:a.length<9223372036854775807)(lb:b.length<9223372036854775807)(ra:rgA a)(rb:rgA b):∃c,Gives cfg 25 [.sl .sh (a.map encA),.sl .sh (b.map encA)] (resV c (subV a b)):=by
 refine RetV.gives (l25 _ _) ?_
 have h0:=both_ref a b
 have e:subV a b=if firstE [ckV a,ckV b]=0 then finV (madeF (fun s=>subQ (getQ a s) (getQ b s)) (namesOf (allNames [a,b])) [])else([],firstE [ckV a,ckV b]):=rfl
 rw[e]
 by_cases hc:firstE [ckV a,ckV b]=0
 ·rw[if_pos hc]
  rw[hc]at h0
  obtain⟨ca,cb⟩:=two_ok hc
  have oa:=vOk ca
  have ob:=vOk cb
  have hn:=names_ref a b (by have:=oa.len;omega) (by have:=ob.len;omega)
  rw[names_two ca cb]
  have hml:(mergeN (nms a) (nms b)).length≤100000:=by
   have:=merge_len (nms a) (nms b)
   have:=oa.len;have:=ob.len
   simp only[List.length_map]at*
   omega
  have hl:=subR_loop a b la lb (rg_get ra) (rg_get rb) (mergeN (nms a) (nms b)) hml (mergeN (nms a) (nms b)) 0 rfl [] (by simp)
  generalize mergeN (nms a) (nms b)=ns at hn hl⊢
  exact let ζ1:List AV:=[.sl .sh (a.map encA),.sl .sh (b.map encA)];goG 90 [] trivial (.callK (ζ1) (.int .i64 0) (show Gives cfg (59:FuncId) ζ1 (.int .i64 0)from h0)<|.ff<|.callG (ζ1) (.sl .sh (List.map .str ns)) (show Gives cfg (60:FuncId) ζ1 (rowT ns)from hn) ⟨rfl,rfl⟩ Res.p<|.cutQ k25_0 [(0,.sl .sh (a.map encA)),(1,.sl .sh (b.map encA)),(7,.sl .sh (List.map .str ns)),(8,.sl .full []),(9,.int .i64 0)] ({boxes:=[],toks:=[],loops:=[]:Heap}) (fun T hT=>(hl T hT))) (by kernel_rfl)
 ·rw[if_neg hc]
  generalize firstE [ckV a,ckV b]=c at h0 hc⊢
  exact let ζ1:List AV:=[.sl .sh (a.map encA),.sl .sh (b.map encA)];goG 90 [] trivial (.callK (ζ1) (.int .i64 c) (show Gives cfg (59:FuncId) ζ1 (.int .i64 c)from h0)<|.yes (show(c !=(0:Int))=true from(by simpa using hc))<|.fin ((.ret (.tuple [.sl .full [],.int .i64 c]),{boxes:=[],toks:=[],loops:=[]:Heap})) (by exact⟨false,rfl⟩)) (by kernel_rfl)
end Go.Aa.T
set_option linter.unusedVariables false
set_option linter.unusedSimpArgs false
set_option maxRecDepth 100000
namespace Go.Aa.T
open Go.Aa Go.Proofs
structure POk(v:List Amount):Prop where
 name:∀x∈v,isName x.name=true
 pos:∀x∈v,0<x.n
 rise:Rise (nms v)
theorem VOk.p{v:List Amount}(h:VOk v):POk v:=⟨h.name,h.pos,h.rise⟩
theorem POk.v{v:List Amount}(h:POk v)(hl:v.length≤8):VOk v:=⟨hl,h.name,h.pos,h.rise⟩
theorem pok_pos{v:List Amount}(h:POk v){s:List UInt8}:s∈nms v↔0<getQ v s:=by
 constructor
 ·intro hs
  obtain⟨x,hx,-,e⟩:=getQ_some hs
  rw[e];exact h.pos x hx
 ·intro hs
  by_cases hm:s∈nms v
  ·exact hm
  ·rw[getQ_none hm]at hs;omega
theorem pok_nn{v:List Amount}(h:POk v)(s:List UInt8):0≤getQ v s:=by
 by_cases hm:s∈nms v
 ·have:=(pok_pos h).1 hm;omega
 ·rw[getQ_none hm];omega
theorem getQ_mem:∀{v:List Amount},Rise (nms v)→∀x∈v,getQ v x.name=x.n
 |[],_,x,hx=>by cases hx
 |y::v,h,x,hx=>by
  rw[getQ_cons]
  rcases List.mem_cons.1 hx with rfl|hx
  ·rw[if_pos rfl]
  ·rw[if_neg,getQ_mem (List.Pairwise.of_cons h) x hx]
   intro e
   have:=List.rel_of_pairwise_cons h (List.mem_map.2 ⟨x,hx,rfl⟩)
   rw[e,bl_irrefl]at this
   cases this
def mk1(g:OfQ)(l:List (List UInt8)):List Amount:=(l.filter fun s=>decide (0<(g s).1)).map fun s=>⟨s,(g s).1⟩
theorem madeF_ok{g:OfQ}:∀{l:List (List UInt8)}(acc:List Amount),(∀s∈l,(g s).2=0)→madeF g l acc=(acc++mk1 g l,0)
 |[],acc,_=>by simp[madeF,mk1]
 |s::l,acc,h=>by
  unfold madeF
  rw[if_pos (h s (by simp)),madeF_ok _ fun t ht=>h t (by simp[ht])]
  by_cases hp:0<(g s).1<;>simp[mk1,hp]
theorem madeF_zero{g:OfQ}:∀{l:List (List UInt8)}{acc:List Amount},(madeF g l acc).2=0→∀s∈l,(g s).2=0
 |[],acc,_,s,hs=>by cases hs
 |t::l,acc,h,s,hs=>by
  unfold madeF at h
  split at h
  ·rename_i h0
   rcases List.mem_cons.1 hs with rfl|hs
   ·exact h0
   ·exact madeF_zero h s hs
  ·rename_i h0;exact absurd h h0
theorem nms_mk1(g:OfQ)(l:List (List UInt8)):nms (mk1 g l)=l.filter fun s=>decide (0<(g s).1):=by
 simp only[nms,mk1,List.map_map]
 conv=>rhs;rw[←List.map_id (l.filter _)]
 rfl
theorem made_two{g:OfQ}{a b:List Amount}(oa:VOk a)(ob:VOk b):madeV g [a,b]=finV (madeF g (namesOf (nms a++nms b)) []):=by
 have e:allNames [a,b]=nms a++nms b:=by simp[allNames]
 unfold madeV
 rw[if_pos (by simp[firstE,ckV_of oa,ckV_of ob]),e]
theorem addQ_nn{a b:Int}(ha:0≤a)(hb:0≤b):addQ a b=toldQ (a+b):=by
 unfold addQ bothE;rw[if_neg (show¬a<0 by omega),if_neg (show¬b<0 by omega),if_neg (by simp)]
theorem told_ok{n:Int}(h:n≤9223372036854775807):toldQ n=(n,0):=by unfold toldQ;rw[if_neg (by omega)]
theorem told_zero{n:Int}(h:(toldQ n).2=0):n≤9223372036854775807:=by
 unfold toldQ at h;split at h
 ·cases h
 ·omega
theorem add_nms{a b:List Amount}(oa:VOk a)(ob:VOk b)(hs:∀s,getQ a s+getQ b s≤9223372036854775807):
 (namesOf (nms a++nms b)).filter (fun s=>decide (0<(addQ (getQ a s) (getQ b s)).1))=namesOf (nms a++nms b):=by
 refine List.filter_eq_self.2 fun s hx=> ?_
 have pa:=pok_nn oa.p s
 have pb:=pok_nn ob.p s
 rw[addQ_nn pa pb,told_ok (hs s)]
 have:0<getQ a s+getQ b s:=by
  rcases List.mem_append.1 (namesOf_mem.1 hx)with h|h
  ·have:=(pok_pos oa.p).1 h;omega
  ·have:=(pok_pos ob.p).1 h;omega
 simpa using this
theorem add_zero{a b:List Amount}(oa:VOk a)(ob:VOk b)(h:(addV a b).2=0):(∀s,getQ a s+getQ b s≤9223372036854775807)∧(namesOf (nms a++nms b)).length≤8:=by
 have pa:=pok_nn oa.p
 have pb:=pok_nn ob.p
 unfold addV at h
 rw[made_two oa ob]at h
 have h0:(madeF (fun s=>addQ (getQ a s) (getQ b s)) (namesOf (nms a++nms b)) []).2=0:=by
  unfold finV at h;split at h
  ·rename_i h0;exact h0
  ·exact h
 have h1:=madeF_zero h0
 have hs:∀s,getQ a s+getQ b s≤9223372036854775807:=fun s=>by
  by_cases hm:s∈nms a++nms b
  ·have:=h1 s (namesOf_mem.2 hm)
   simp only[addQ_nn (pa s) (pb s)]at this
   exact told_zero this
  ·rw[getQ_none fun h=>hm (List.mem_append.2 (.inl h)),getQ_none fun h=>hm (List.mem_append.2 (.inr h))];omega
 refine⟨hs,?_⟩
 rw[madeF_ok _ h1,List.nil_append]at h
 have e2:=nms_mk1 (fun s=>addQ (getQ a s) (getQ b s)) (namesOf (nms a++nms b))
 rw[add_nms oa ob hs]at e2
 rw[←e2,List.length_map]
 unfold finV at h
 rw[if_pos rfl]at h
 split at h
 ·cases h
 ·rename_i h3;exact Nat.le_of_not_lt h3
end Go.Aa.T
set_option linter.unusedVariables false
set_option linter.unusedSimpArgs false
set_option maxRecDepth 100000
namespace Go.Aa.T
open Go.Aa Go.Proofs
theorem subQ_le{a b:Int}(ha:0≤a)(hb:0≤b)(h:(subQ a b).2=0):b≤a:=by
 unfold subQ bothE at h
 rw[if_neg (show¬a<0 by omega),if_neg (show¬b<0 by omega),if_neg (by simp)]at h
 split at h
 ·cases h
 ·omega
theorem sub_zero{a b:List Amount}(oa:VOk a)(ob:VOk b)(h:(subV a b).2=0):∀s,getQ b s≤getQ a s:=by
 have pa:=pok_nn oa.p
 have pb:=pok_nn ob.p
 unfold subV at h
 rw[made_two oa ob]at h
 have h0:(madeF (fun s=>subQ (getQ a s) (getQ b s)) (namesOf (nms a++nms b)) []).2=0:=by
  unfold finV at h;split at h
  ·rename_i h0;exact h0
  ·exact h
 have h1:=madeF_zero h0
 intro s
 by_cases hm:s∈nms a++nms b
 ·have h2:=h1 s (namesOf_mem.2 hm)
  exact subQ_le (pa s) (pb s) h2
 ·rw[getQ_none fun h=>hm (List.mem_append.2 (.inl h)),getQ_none fun h=>hm (List.mem_append.2 (.inr h))];omega
end Go.Aa.T
set_option linter.unusedVariables false
set_option linter.unusedSimpArgs false
set_option maxRecDepth 100000
namespace Go.Aa.T
open Go.Aa Go.Proofs
theorem mul_of(a:List Amount)(n:Int)(ha:a.length<9223372036854775807)(ra:∀s,inI (getQ a s))(rn:inI n)(s:List UInt8)(B:List (List AV))(tk:List Nat):
 Does cfg (.call (.c (.func 66 [.ptr 0 0,.ptr 1 0])) [.c (.str s)]) ⟨[encV a]::[.int .i64 n]::B,tk,[]⟩ (.tuple [.int .i64 (mulQ (getQ a s) n).1,.int .i64 (mulQ (getQ a s) n).2]) ⟨[encV a]::[.int .i64 n]::B,tk,[]⟩:=by
 have g1:=getQ_any a s ha
 have g3:=qmul_any _ _ (ra s) rn
 generalize getQ a s=p at g1 g3⊢
 generalize mulQ p n=z at g3⊢
 have key:Goes cfg a66 [.c c66] (initEnv [.str s,.ptr 0 0,.ptr 1 0]) ⟨[encV a]::[.int .i64 n]::B,tk,[]⟩ (fun r=>r=(.ret (.tuple [.int .i64 z.1,.int .i64 z.2]),⟨[encV a]::[.int .i64 n]::B,tk,[]⟩)):=by
  exact let ζ1:Heap:={boxes:=[.sl .sh (a.map encA)]::[.int .i64 n]::B,toks:=tk,loops:=[]:Heap};let ζ2:List AV:=[.int .i64 z.fst,.int .i64 z.snd];let ζ3:List AV:=[.sl .sh (a.map encA),.str s];goG 60 [] trivial (.load (show loadA false 1 ζ1 (.ptr 0 0)=some (.sl .sh (a.map encA))from load_box (cs:=[.sl .sh (a.map encA)]) (by simp+zetaDelta) rfl)<|.callK (ζ3) (.int .i64 p) (show Gives cfg (36:FuncId) ζ3 (.int .i64 p)from g1)<|.load (show loadA false 1 ζ1 (.ptr 1 0)=some (.int .i64 n)from load_box (cs:=[.int .i64 n]) (by simp+zetaDelta) rfl)<|.callI g3<|.fin ((.ret (.tuple ζ2),ζ1)) rfl) (by kernel_rfl)
 obtain⟨r,h,rfl⟩:=key
 have h2:lim cfg (.fn 66) ([.str s]++[.ptr 0 0,.ptr 1 0]) ⟨[encV a]::[.int .i64 n]::B,tk,[]⟩=some (.ret (.tuple [.int .i64 z.1,.int .i64 z.2]),⟨[encV a]::[.int .i64 n]::B,tk,[]⟩):=by
  rw[show([AV.str s]++[.ptr 0 0,.ptr 1 0])=[.str s,.ptr 0 0,.ptr 1 0]from rfl,l66];exact h
 have hd:=does_callE h2 rfl rfl
 rwa [trunc_self]at hd
def timesV(a:List Amount)(n:Int):List Amount×Int:=madeV (fun s=>mulQ (getQ a s) n) [a]
theorem timesV_any(a:List Amount)(n:Int)(ha:a.length<9223372036854775807)(ra:rgA a)(rn:inI n):
 Gives cfg 26 [.sl .sh (a.map encA),.int .i64 n] (.tuple [.sl .sh ((timesV a n).1.map encA),.int .i64 (timesV a n).2]):=by
 refine Gives.run (l26 _ _) ?_
 obtain⟨H',h⟩:=made_any (fun s=>mulQ (getQ a s) n) 66 (encV a) (.int .i64 n) [a] (mul_of a n ha (rg_get ra) rn) (by simp) ⟨rfl,rfl⟩
 have h2:Does cfg (.call (.c (.func 56 [])) [.c (.func 66 [.ptr 0 0,.ptr 1 0]),.c (.sl .sh [.sl .sh (a.map encA)])]) ⟨[[.sl .sh (a.map encA)],[.int .i64 n]],[],[]⟩ (.tuple [.sl .sh ((timesV a n).1.map encA),.int .i64 (timesV a n).2]) H':=h
 have h3:Does cfg (.call (.c (.func 56 [])) [.c (.func 66 [.ptr 0 0,.ptr 1 0]),.c (.sl .full [.sl .sh (a.map encA)])]) ⟨[[.sl .sh (a.map encA)],[.int .i64 n]],[],[]⟩ (.tuple [.sl .sh ((timesV a n).1.map encA),.int .i64 (timesV a n).2]) H':=fun T=>h2 T
 generalize timesV a n=z at h3⊢
 exact let ζ1:List AV:=[.sl .sh (z.fst.map encA),.int .i64 z.snd];goG 60 [] trivial (.effY (show Does cfg (.call (.c (.func (56:FuncId) [])) [.c (.func (66:FuncId) [.ptr 0 0,.ptr 1 0]),.c (.sl .full [.sl .sh (a.map encA)])]) {boxes:=[[.sl .sh (a.map encA)],[.int .i64 n]],toks:=[],loops:=[]:Heap} (.tuple ζ1) H' from h3)<|.fin ((.ret (.tuple ζ1),H')) rfl) (by kernel_rfl)
theorem part_of(a:List Amount)(n:Int)(ha:a.length<9223372036854775807)(ra:∀s,inI (getQ a s))(rn:inI n)(s:List UInt8)(B:List (List AV))(tk:List Nat):
 Does cfg (.call (.c (.func 69 [.ptr 0 0,.ptr 1 0])) [.c (.str s)]) ⟨[encV a]::[.int .i64 n]::B,tk,[]⟩ (.tuple [.int .i64 (partQ (getQ a s) n).1,.int .i64 (partQ (getQ a s) n).2]) ⟨[encV a]::[.int .i64 n]::B,tk,[]⟩:=by
 have g1:=getQ_any a s ha
 have g3:=qpart_any _ _ (ra s) rn
 generalize getQ a s=p at g1 g3⊢
 generalize partQ p n=z at g3⊢
 have key:Goes cfg a69 [.c c69] (initEnv [.str s,.ptr 0 0,.ptr 1 0]) ⟨[encV a]::[.int .i64 n]::B,tk,[]⟩ (fun r=>r=(.ret (.tuple [.int .i64 z.1,.int .i64 z.2]),⟨[encV a]::[.int .i64 n]::B,tk,[]⟩)):=by
  exact let ζ1:Heap:={boxes:=[.sl .sh (a.map encA)]::[.int .i64 n]::B,toks:=tk,loops:=[]:Heap};let ζ2:List AV:=[.int .i64 z.fst,.int .i64 z.snd];let ζ3:List AV:=[.sl .sh (a.map encA),.str s];goG 60 [] trivial (.load (show loadA false 1 ζ1 (.ptr 0 0)=some (.sl .sh (a.map encA))from load_box (cs:=[.sl .sh (a.map encA)]) (by simp+zetaDelta) rfl)<|.callK (ζ3) (.int .i64 p) (show Gives cfg (36:FuncId) ζ3 (.int .i64 p)from g1)<|.load (show loadA false 1 ζ1 (.ptr 1 0)=some (.int .i64 n)from load_box (cs:=[.int .i64 n]) (by simp+zetaDelta) rfl)<|.callI g3<|.fin ((.ret (.tuple ζ2),ζ1)) rfl) (by kernel_rfl)
 obtain⟨r,h,rfl⟩:=key
 have h2:lim cfg (.fn 69) ([.str s]++[.ptr 0 0,.ptr 1 0]) ⟨[encV a]::[.int .i64 n]::B,tk,[]⟩=some (.ret (.tuple [.int .i64 z.1,.int .i64 z.2]),⟨[encV a]::[.int .i64 n]::B,tk,[]⟩):=by
  rw[show([AV.str s]++[.ptr 0 0,.ptr 1 0])=[.str s,.ptr 0 0,.ptr 1 0]from rfl,l69];exact h
 have hd:=does_callE h2 rfl rfl
 rwa [trunc_self]at hd
def partV(a:List Amount)(n:Int):List Amount×Int:=madeV (fun s=>partQ (getQ a s) n) [a]
theorem partV_any(a:List Amount)(n:Int)(ha:a.length<9223372036854775807)(ra:rgA a)(rn:inI n):
 Gives cfg 28 [.sl .sh (a.map encA),.int .i64 n] (.tuple [.sl .sh ((partV a n).1.map encA),.int .i64 (partV a n).2]):=by
 refine Gives.run (l28 _ _) ?_
 obtain⟨H',h⟩:=made_any (fun s=>partQ (getQ a s) n) 69 (encV a) (.int .i64 n) [a] (part_of a n ha (rg_get ra) rn) (by simp) ⟨rfl,rfl⟩
 have h2:Does cfg (.call (.c (.func 56 [])) [.c (.func 69 [.ptr 0 0,.ptr 1 0]),.c (.sl .sh [.sl .sh (a.map encA)])]) ⟨[[.sl .sh (a.map encA)],[.int .i64 n]],[],[]⟩ (.tuple [.sl .sh ((partV a n).1.map encA),.int .i64 (partV a n).2]) H':=h
 have h3:Does cfg (.call (.c (.func 56 [])) [.c (.func 69 [.ptr 0 0,.ptr 1 0]),.c (.sl .full [.sl .sh (a.map encA)])]) ⟨[[.sl .sh (a.map encA)],[.int .i64 n]],[],[]⟩ (.tuple [.sl .sh ((partV a n).1.map encA),.int .i64 (partV a n).2]) H':=fun T=>h2 T
 generalize partV a n=z at h3⊢
 exact let ζ1:List AV:=[.sl .sh (z.fst.map encA),.int .i64 z.snd];goG 60 [] trivial (.effY (show Does cfg (.call (.c (.func (56:FuncId) [])) [.c (.func (69:FuncId) [.ptr 0 0,.ptr 1 0]),.c (.sl .full [.sl .sh (a.map encA)])]) {boxes:=[[.sl .sh (a.map encA)],[.int .i64 n]],toks:=[],loops:=[]:Heap} (.tuple ζ1) H' from h3)<|.fin ((.ret (.tuple ζ1),H')) rfl) (by kernel_rfl)
end Go.Aa.T
set_option linter.unusedVariables false
set_option linter.unusedSimpArgs false
set_option maxRecDepth 100000
namespace Go.Aa.T
open Go.Aa Go.Proofs
theorem names_one{a:List Amount}(oa:VOk a):namesOf (allNames [a])=nms a:=by
 have e:allNames [a]=nms a:=by simp[allNames]
 rw[e]
 exact namesOf_eq oa.rise fun x=>Iff.rfl
theorem made_one{g:OfQ}{a:List Amount}(oa:VOk a):madeV g [a]=finV (madeF g (nms a) []):=by
 unfold madeV
 rw[if_pos (by simp[firstE,ckV_of oa]),names_one oa]
end Go.Aa.T
set_option linter.unusedVariables false
set_option linter.unusedSimpArgs false
set_option maxRecDepth 100000
namespace Go.Aa.T
open Go.Aa Go.Proofs
theorem out_rowS{X:Type}(enc:X→AV)(H0:Heap)(l:List X)(e:Int)(H:Heap):IsOut (.tuple [.sl .sh (l.map enc),.int .i64 e]) (.ret (.tuple [rowS H0 (l.map enc),.int .i64 e]),H):=by
 cases l with
 |nil=>exact⟨_,rfl,dataOut_of ⟨rfl,rfl⟩⟩
 |cons x l=>exact⟨_,rfl,dataOut_of ⟨rfl,rfl⟩⟩
theorem out_bad(e:Int)(H:Heap):IsOut (.tuple [.sl .sh [],.int .i64 e]) (.ret (.tuple [.sl .full [],.int .i64 e]),H):=⟨_,rfl,dataOut_of ⟨rfl,rfl⟩⟩
def eachR(f:Int→Int×Int):List Amount→List Amount→List Amount×Int
 |[],acc=>(acc,0)
 |x::r,acc=>if(f x.n).2=0 then eachR f r (if 0<(f x.n).1 then acc++[⟨x.name,(f x.n).1⟩]else acc)else([],(f x.n).2)
theorem each_made{f:Int→Int×Int}{v:List Amount}(hv:Rise (nms v)){g:OfQ}(hg:∀s,g s=f (getQ v s)):∀(post acc:List Amount),(∀x∈post,x∈v)→madeF g (nms post) acc=eachR f post acc
 |[],acc,_=>rfl
 |x::r,acc,h=>by
  have e:g x.name=f x.n:=by rw[hg,getQ_mem hv x (h x (by simp))]
  show(if(g x.name).2=0 then madeF g (nms r) (if 0<(g x.name).1 then acc++[⟨x.name,(g x.name).1⟩]else acc)else([],(g x.name).2))=_
  rw[e]
  unfold eachR
  rw[each_made hv hg r _ fun y hy=>h y (by simp[hy])]
theorem each_len(f:Int→Int×Int):∀(post acc:List Amount),(eachR f post acc).1.length≤acc.length+post.length
 |[],acc=>by simp[eachR]
 |x::r,acc=>by
  unfold eachR
  split
  ·refine Nat.le_trans (each_len f r _) ?_
   split<;>simp<;>omega
  ·simp
theorem fin_each{p:List Amount×Int}(h:p.1.length≤8)(h2:p.2≠0→p.1=[]):finV p=p:=by
 unfold finV
 obtain⟨l,e⟩:=p
 simp only at h h2⊢
 by_cases h0:e=0
 ·subst h0;rw[if_pos rfl,if_neg (by omega)]
 ·rw[if_neg h0,h2 h0]
theorem each_err(f:Int→Int×Int):∀(post acc:List Amount),(eachR f post acc).2≠0→(eachR f post acc).1=[]
 |[],acc,h=>absurd rfl h
 |x::r,acc,h=>by
  unfold eachR at h⊢
  split
  ·rename_i h0
   rw[if_pos h0]at h
   exact each_err f r _ h
  ·rfl
theorem each_V{f:Int→Int×Int}{v:List Amount}(ov:VOk v){g:OfQ}(hg:∀s,g s=f (getQ v s)):madeV g [v]=eachR f v []:=by
 rw[made_one ov,each_made ov.rise hg v [] fun x hx=>hx]
 refine fin_each ?_ (each_err f v [])
 have:=each_len f v []
 have:=ov.len
 simp at*
 omega
theorem isData_sh(v:List Amount):([AV.sl .sh (v.map encA),.int .i64 0].all isData)=true:=rfl
theorem times_loop(v:List Amount)(n:Int)(lv:v.length≤8)(rv:rgA v)(rn:inI n):∀(post:List Amount)(i:Nat)(hd:v.drop i=post)(acc:List Amount)(ha:acc.length≤i)(T:Env)
 (hT:Has T [(0,.sl .sh (v.map encA)),(1,.int .i64 n),(7,rowS Heap.nil (acc.map encA)),(8,.int .i64 i)]),
 Goes cfg a27 k27_0 T (rowH Heap.nil (acc.map encA)) (IsOut (.tuple [.sl .sh ((eachR (fun a=>mulQ a n) post acc).1.map encA),.int .i64 (eachR (fun a=>mulQ a n) post acc).2])):=by
 intro post
 induction post with
 |nil=>
  intro i hd acc ha T hT
  have hge:=drop_ge hd
  have e:eachR (fun a=>mulQ a n) [] acc=(acc,0):=rfl
  rw[e]
  exact goG 90 _ hT (.len (show lenA false (.sl .sh (v.map encA))=some (.int .i64 (↑v.length))from len_map _)<|.no (show(decide ((↑i:Int)<(↑v.length:Int)))=false from decide_eq_false (by omega))<|.fin ((.ret (.tuple [rowS Heap.nil (acc.map encA),.int .i64 0]),rowH Heap.nil (acc.map encA))) (by exact out_rowS encA _ _ _ _)) (by kernel_rfl)
 |cons x post ih=>
  intro i hd acc ha T hT
  have hlt:=drop_lt hd
  have hnx:=drop_next hd
  have hx:=rv x (drop_mem hd)
  have q:=qmul_ref x.n n hx rn
  have e:eachR (fun a=>mulQ a n) (x::post) acc=if(mulQ x.n n).2=0 then eachR (fun a=>mulQ a n) post (if 0<(mulQ x.n n).1 then acc++[⟨x.name,(mulQ x.n n).1⟩]else acc)else([],(mulQ x.n n).2):=rfl
  rw[e]
  have ih1:=fun acc'=>ih (i+1) hnx acc'
  generalize mulQ x.n n=z at q⊢
  obtain⟨m,er⟩:=z
  simp only at q⊢
  by_cases h0:er=0
  ·subst h0
   rw[if_pos rfl]
   by_cases hp:0<m
   ·rw[if_pos hp]
    have ap:∀H,appendA 2 24 (rowH H (acc.map encA)) (rowS H (acc.map encA)) (.sl .full [.agg [.str x.name,.int .i64 m]])=some (rowS H ((acc++[(⟨x.name,m⟩:Amount)]).map encA),rowH H ((acc++[(⟨x.name,m⟩:Amount)]).map encA)):=fun H=>row_append_map (f:=encA) (x:=(⟨x.name,m⟩:Amount)) (ys:=acc) (by simp;omega) lenA2 rfl rfl
    have ih':=ih1 (acc++[(⟨x.name,m⟩:Amount)]) (by simp;omega)
    exact goG 120 _ hT (.len (show lenA false (.sl .sh (v.map encA))=some (.int .i64 (↑v.length))from len_map _)<|.yes (show(decide ((↑i:Int)<(↑v.length:Int)))=true from decide_eq_true (by omega))<|.idx (show idxA 2 (.sl .sh (v.map encA)) (.int .i64 ↑i)=some (.ref (encA x).cells)from idx_row hd (by rfl))<|.load (show loadA false 1 (rowH Heap.nil (acc.map encA)) (.ref [.int .i64 x.n])=some (.int .i64 x.n)from rfl)<|.callI q<|.ff<|.yes (show(decide ((0:Int)<m))=true from decide_eq_true (by exact hp))<|.idx (show idxA 2 (.sl .sh (v.map encA)) (.int .i64 ↑i)=some (.ref (encA x).cells)from idx_row hd (by rfl))<|.load (show loadA false 1 (rowH Heap.nil (acc.map encA)) (.ref [.str x.name])=some (.str x.name)from rfl)<|.append (show appendA (2:Nat) (24:Nat) (rowH Heap.nil (acc.map encA)) (rowS Heap.nil (acc.map encA)) (.sl .full [.agg [.str x.name,.int .i64 m]])=some ((rowS Heap.nil (List.map encA (acc++[{name:=x.name,n:=m:Amount}])),rowH Heap.nil (List.map encA (acc++[{name:=x.name,n:=m:Amount}]))))from ap _)<|.bin (show binA .add (.int .i64 ↑i) (.int .i64 1)=some (.int .i64 (↑(i+1)))from inc_i (by omega))<|.cutQ k27_0 [(0,.sl .sh (v.map encA)),(1,.int .i64 n),(7,rowS Heap.nil (List.map encA (acc++[{name:=x.name,n:=m:Amount}]))),(8,.int .i64 (↑(i+1)))] (rowH Heap.nil (List.map encA (acc++[{name:=x.name,n:=m:Amount}]))) (fun T hT=>(ih' T hT))) (by kernel_rfl)
   ·rw[if_neg hp]
    have ih':=ih1 acc (by omega)
    exact goG 120 _ hT (.len (show lenA false (.sl .sh (v.map encA))=some (.int .i64 (↑v.length))from len_map _)<|.yes (show(decide ((↑i:Int)<(↑v.length:Int)))=true from decide_eq_true (by omega))<|.idx (show idxA 2 (.sl .sh (v.map encA)) (.int .i64 ↑i)=some (.ref (encA x).cells)from idx_row hd (by rfl))<|.load (show loadA false 1 (rowH Heap.nil (acc.map encA)) (.ref [.int .i64 x.n])=some (.int .i64 x.n)from rfl)<|.callI q<|.ff<|.no (show(decide ((0:Int)<m))=false from decide_eq_false (by exact hp))<|.bin (show binA .add (.int .i64 ↑i) (.int .i64 1)=some (.int .i64 (↑(i+1)))from inc_i (by omega))<|.cutQ k27_0 [(0,.sl .sh (v.map encA)),(1,.int .i64 n),(7,rowS Heap.nil (acc.map encA)),(8,.int .i64 (↑(i+1)))] (rowH Heap.nil (acc.map encA)) (fun T hT=>(ih' T hT))) (by kernel_rfl)
  ·rw[if_neg h0]
   exact goG 120 _ hT (.len (show lenA false (.sl .sh (v.map encA))=some (.int .i64 (↑v.length))from len_map _)<|.yes (show(decide ((↑i:Int)<(↑v.length:Int)))=true from decide_eq_true (by omega))<|.idx (show idxA 2 (.sl .sh (v.map encA)) (.int .i64 ↑i)=some (.ref (encA x).cells)from idx_row hd (by rfl))<|.load (show loadA false 1 (rowH Heap.nil (acc.map encA)) (.ref [.int .i64 x.n])=some (.int .i64 x.n)from rfl)<|.callI q<|.yes (show(er !=(0:Int))=true from(by simpa using h0))<|.fin ((.ret (.tuple [.sl .full [],.int .i64 er]),rowH Heap.nil (acc.map encA))) (by exact out_bad _ _)) (by kernel_rfl)
theorem timesV_ref(v:List Amount)(n:Int)(lv:v.length<9223372036854775807)(rv:rgA v)(rn:inI n)(H:Heap):Does cfg (.call (.c (.func 27 [])) [.c (.sl .sh (v.map encA)),.c (.int .i64 n)]) H (.tuple [.sl .sh ((timesV v n).1.map encA),.int .i64 (timesV v n).2]) H:=by
 refine does_callF (xs:=[.sl .sh (v.map encA),.int .i64 n]) ?_ rfl (isData_sh v) H
 refine GivesF.run (l27 _ _) ?_
 have k:=ckV_ref v
 by_cases e1:ckV v=0
 ·rw[e1]at k
  have ov:=vOk e1
  have e:timesV v n=eachR (fun a=>mulQ a n) v []:=each_V ov fun s=>rfl
  rw[e]
  have h:=times_loop v n ov.len rv rn v 0 rfl [] (by simp)
  exact goG 90 [] trivial (.callI k<|.ff<|.cutQ k27_0 [(0,.sl .sh (v.map encA)),(1,.int .i64 n),(7,.sl .full []),(8,.int .i64 0)] ({boxes:=[],toks:=[],loops:=[]:Heap}) (fun T hT=>(h T hT))) (by kernel_rfl)
 ·have e:timesV v n=([],ckV v):=by
   unfold timesV madeV
   rw[if_neg (by simpa[firstE]using e1)]
   simp[firstE]
   intro h;exact absurd h e1
  rw[e]
  generalize ckV v=c at k e1⊢
  exact goG 90 [] trivial (.callI k<|.yes (show(c !=(0:Int))=true from(by simpa using e1))<|.fin ((.ret (.tuple [.sl .full [],.int .i64 c]),{boxes:=[],toks:=[],loops:=[]:Heap})) (by exact out_bad _ _)) (by kernel_rfl)
theorem partv_loop(v:List Amount)(n:Int)(lv:v.length≤8)(rv:rgA v)(rn:inI n):∀(post:List Amount)(i:Nat)(hd:v.drop i=post)(acc:List Amount)(ha:acc.length≤i)(T:Env)
 (hT:Has T [(0,.sl .sh (v.map encA)),(1,.int .i64 n),(7,rowS Heap.nil (acc.map encA)),(8,.int .i64 i)]),
 Goes cfg a29 k29_0 T (rowH Heap.nil (acc.map encA)) (IsOut (.tuple [.sl .sh ((eachR (fun a=>partQ a n) post acc).1.map encA),.int .i64 (eachR (fun a=>partQ a n) post acc).2])):=by
 intro post
 induction post with
 |nil=>
  intro i hd acc ha T hT
  have hge:=drop_ge hd
  have e:eachR (fun a=>partQ a n) [] acc=(acc,0):=rfl
  rw[e]
  exact goG 90 _ hT (.len (show lenA false (.sl .sh (v.map encA))=some (.int .i64 (↑v.length))from len_map _)<|.no (show(decide ((↑i:Int)<(↑v.length:Int)))=false from decide_eq_false (by omega))<|.fin ((.ret (.tuple [rowS Heap.nil (acc.map encA),.int .i64 0]),rowH Heap.nil (acc.map encA))) (by exact out_rowS encA _ _ _ _)) (by kernel_rfl)
 |cons x post ih=>
  intro i hd acc ha T hT
  have hlt:=drop_lt hd
  have hnx:=drop_next hd
  have hx:=rv x (drop_mem hd)
  have q:=qpart_ref x.n n hx rn
  have e:eachR (fun a=>partQ a n) (x::post) acc=if(partQ x.n n).2=0 then eachR (fun a=>partQ a n) post (if 0<(partQ x.n n).1 then acc++[⟨x.name,(partQ x.n n).1⟩]else acc)else([],(partQ x.n n).2):=rfl
  rw[e]
  have ih1:=fun acc'=>ih (i+1) hnx acc'
  generalize partQ x.n n=z at q⊢
  obtain⟨m,er⟩:=z
  simp only at q⊢
  by_cases h0:er=0
  ·subst h0
   rw[if_pos rfl]
   by_cases hp:0<m
   ·rw[if_pos hp]
    have ap:∀H,appendA 2 24 (rowH H (acc.map encA)) (rowS H (acc.map encA)) (.sl .full [.agg [.str x.name,.int .i64 m]])=some (rowS H ((acc++[(⟨x.name,m⟩:Amount)]).map encA),rowH H ((acc++[(⟨x.name,m⟩:Amount)]).map encA)):=fun H=>row_append_map (f:=encA) (x:=(⟨x.name,m⟩:Amount)) (ys:=acc) (by simp;omega) lenA2 rfl rfl
    have ih':=ih1 (acc++[(⟨x.name,m⟩:Amount)]) (by simp;omega)
    exact goG 120 _ hT (.len (show lenA false (.sl .sh (v.map encA))=some (.int .i64 (↑v.length))from len_map _)<|.yes (show(decide ((↑i:Int)<(↑v.length:Int)))=true from decide_eq_true (by omega))<|.idx (show idxA 2 (.sl .sh (v.map encA)) (.int .i64 ↑i)=some (.ref (encA x).cells)from idx_row hd (by rfl))<|.load (show loadA false 1 (rowH Heap.nil (acc.map encA)) (.ref [.int .i64 x.n])=some (.int .i64 x.n)from rfl)<|.callI q<|.ff<|.yes (show(decide ((0:Int)<m))=true from decide_eq_true (by exact hp))<|.idx (show idxA 2 (.sl .sh (v.map encA)) (.int .i64 ↑i)=some (.ref (encA x).cells)from idx_row hd (by rfl))<|.load (show loadA false 1 (rowH Heap.nil (acc.map encA)) (.ref [.str x.name])=some (.str x.name)from rfl)<|.append (show appendA (2:Nat) (24:Nat) (rowH Heap.nil (acc.map encA)) (rowS Heap.nil (acc.map encA)) (.sl .full [.agg [.str x.name,.int .i64 m]])=some ((rowS Heap.nil (List.map encA (acc++[{name:=x.name,n:=m:Amount}])),rowH Heap.nil (List.map encA (acc++[{name:=x.name,n:=m:Amount}]))))from ap _)<|.bin (show binA .add (.int .i64 ↑i) (.int .i64 1)=some (.int .i64 (↑(i+1)))from inc_i (by omega))<|.cutQ k29_0 [(0,.sl .sh (v.map encA)),(1,.int .i64 n),(7,rowS Heap.nil (List.map encA (acc++[{name:=x.name,n:=m:Amount}]))),(8,.int .i64 (↑(i+1)))] (rowH Heap.nil (List.map encA (acc++[{name:=x.name,n:=m:Amount}]))) (fun T hT=>(ih' T hT))) (by kernel_rfl)
   ·rw[if_neg hp]
    have ih':=ih1 acc (by omega)
    exact goG 120 _ hT (.len (show lenA false (.sl .sh (v.map encA))=some (.int .i64 (↑v.length))from len_map _)<|.yes (show(decide ((↑i:Int)<(↑v.length:Int)))=true from decide_eq_true (by omega))<|.idx (show idxA 2 (.sl .sh (v.map encA)) (.int .i64 ↑i)=some (.ref (encA x).cells)from idx_row hd (by rfl))<|.load (show loadA false 1 (rowH Heap.nil (acc.map encA)) (.ref [.int .i64 x.n])=some (.int .i64 x.n)from rfl)<|.callI q<|.ff<|.no (show(decide ((0:Int)<m))=false from decide_eq_false (by exact hp))<|.bin (show binA .add (.int .i64 ↑i) (.int .i64 1)=some (.int .i64 (↑(i+1)))from inc_i (by omega))<|.cutQ k29_0 [(0,.sl .sh (v.map encA)),(1,.int .i64 n),(7,rowS Heap.nil (acc.map encA)),(8,.int .i64 (↑(i+1)))] (rowH Heap.nil (acc.map encA)) (fun T hT=>(ih' T hT))) (by kernel_rfl)
  ·rw[if_neg h0]
   exact goG 120 _ hT (.len (show lenA false (.sl .sh (v.map encA))=some (.int .i64 (↑v.length))from len_map _)<|.yes (show(decide ((↑i:Int)<(↑v.length:Int)))=true from decide_eq_true (by omega))<|.idx (show idxA 2 (.sl .sh (v.map encA)) (.int .i64 ↑i)=some (.ref (encA x).cells)from idx_row hd (by rfl))<|.load (show loadA false 1 (rowH Heap.nil (acc.map encA)) (.ref [.int .i64 x.n])=some (.int .i64 x.n)from rfl)<|.callI q<|.yes (show(er !=(0:Int))=true from(by simpa using h0))<|.fin ((.ret (.tuple [.sl .full [],.int .i64 er]),rowH Heap.nil (acc.map encA))) (by exact out_bad _ _)) (by kernel_rfl)
theorem partV_ref(v:List Amount)(n:Int)(lv:v.length<9223372036854775807)(rv:rgA v)(rn:inI n)(H:Heap):Does cfg (.call (.c (.func 29 [])) [.c (.sl .sh (v.map encA)),.c (.int .i64 n)]) H (.tuple [.sl .sh ((partV v n).1.map encA),.int .i64 (partV v n).2]) H:=by
 refine does_callF (xs:=[.sl .sh (v.map encA),.int .i64 n]) ?_ rfl (isData_sh v) H
 refine GivesF.run (l29 _ _) ?_
 have k:=ckV_ref v
 by_cases e1:ckV v=0
 ·rw[e1]at k
  have ov:=vOk e1
  have e:partV v n=eachR (fun a=>partQ a n) v []:=each_V ov fun s=>rfl
  rw[e]
  have h:=partv_loop v n ov.len rv rn v 0 rfl [] (by simp)
  exact goG 90 [] trivial (.callI k<|.ff<|.cutQ k29_0 [(0,.sl .sh (v.map encA)),(1,.int .i64 n),(7,.sl .full []),(8,.int .i64 0)] ({boxes:=[],toks:=[],loops:=[]:Heap}) (fun T hT=>(h T hT))) (by kernel_rfl)
 ·have e:partV v n=([],ckV v):=by
   unfold partV madeV
   rw[if_neg (by simpa[firstE]using e1)]
   simp[firstE]
   intro h;exact absurd h e1
  rw[e]
  generalize ckV v=c at k e1⊢
  exact goG 90 [] trivial (.callI k<|.yes (show(c !=(0:Int))=true from(by simpa using e1))<|.fin ((.ret (.tuple [.sl .full [],.int .i64 c]),{boxes:=[],toks:=[],loops:=[]:Heap})) (by exact out_bad _ _)) (by kernel_rfl)
end Go.Aa.T
set_option linter.unusedVariables false
set_option linter.unusedSimpArgs false
set_option maxRecDepth 100000
namespace Go.Aa.T
open Go.Aa Go.Proofs
end Go.Aa.T
set_option linter.unusedVariables false
set_option linter.unusedSimpArgs false
set_option maxRecDepth 100000
namespace Go.Aa.T
open Go.Aa Go.Proofs
def place(s:List Pair)(k:List UInt8):Nat:=(s.takeWhile (fun p=>Op.bytesLess p.key k)).length
end Go.Aa.T
set_option linter.unusedVariables false
set_option linter.unusedSimpArgs false
set_option maxRecDepth 100000
namespace Go.Aa.T
open Go.Aa Go.Proofs
def textOf{α:Type}(f:α→List UInt8)(l:List α):List UInt8:=if l.isEmpty then [45]else Lib.join (l.map f) [44]
theorem tail_len:∀(r:List (List UInt8)),(∀s∈r,s.length≤103)→(Lib.joinTail [44] r).length≤r.length*104
 |[],_=>by simp[Lib.joinTail]
 |s::r,h=>by
  have h1:=h s (by simp)
  have h2:=tail_len r (fun y hy=>h y (by simp[hy]))
  simp only[Lib.joinTail,List.map_cons,List.flatten_cons,List.length_append,List.length_cons,List.length_nil]at h2⊢
  omega
theorem join_len(ss:List (List UInt8))(h:∀s∈ss,s.length≤103)(hn:ss.length≤20):(Lib.join ss [44]).length≤3000:=by
 cases ss with
 |nil=>simp[Lib.join_nil]
 |cons x r=>
  rw[Lib.join_cons,List.length_append]
  have h1:=h x (by simp)
  have h2:=tail_len r (fun y hy=>h y (by simp[hy]))
  simp only[List.length_cons]at hn
  omega
theorem join_any(ss:List (List UInt8))(h1:ss.length≤140737488355328)(h2:(Lib.join ss [44]).length≤140737488355328):Gives cfg 54 [.sl .sh (ss.map AV.str),.str [44]] (.str (Lib.join ss [44])):=by
 refine Gives.of (H':=Heap.nil) ?_
 rw[lim_ext (g:=joinE) rfl rfl]
 have:joinE [.sl .sh (ss.map AV.str),.str [44]] Heap.nil=some (.str (Lib.join ss [44]),Heap.nil):=by
  simp only[joinE,strsA_map]
  exact if_pos ⟨h1,h2⟩
 rw[this];rfl
theorem lenSt{l:List (List UInt8)}:lenOk 1 (l.map AV.str)=true:=lenOk_map fun _=>rfl
end Go.Aa.T
set_option linter.unusedVariables false
set_option linter.unusedSimpArgs false
namespace Go.Aa.T
open Go.Aa
theorem dec_split(u:Nat)(h:¬u<10):Lib.decDigits u=Lib.decDigits (u/10)++[UInt8.ofNat (48+u%10)]:=by
 rw[Lib.decDigits,dif_neg h]
theorem dec_one(u:Nat)(h:u<10):Lib.decDigits u=[UInt8.ofNat (48+u)]:=by
 rw[Lib.decDigits,dif_pos h]
theorem itoa_nat{n:Nat}(h:n≤9223372036854775807):itoaF (n:Int)=Lib.decDigits n:=by
 rw[itoaF_eq (by omega) (by omega)]
 unfold Lib.itoa
 rw[if_neg (by omega)]
 rfl
end Go.Aa.T
set_option linter.unusedVariables false
set_option linter.unusedSimpArgs false
set_option maxRecDepth 100000
namespace Go.Aa.T
open Go.Aa Go.Proofs
def aText(x:Amount):List UInt8:=x.name++[61]++itoaF x.n
theorem fmt_any(n:Int)(h0: -9223372036854775808≤n)(h1:n≤9223372036854775807):Gives cfg 53 [.int .i64 n,.int .i64 10] (.str (itoaF n)):=by
 refine Gives.of (H':=Heap.nil) ?_
 rw[lim_ext (g:=fmtE) rfl rfl]
 have:fmtE [.int .i64 n,.int .i64 10] Heap.nil=some (.str (itoaF n),Heap.nil):=by
  simp only[fmtE]
  exact if_pos ⟨trivial,trivial,trivial,h0,h1⟩
 rw[this];rfl
theorem itoaF_len{n:Int}(h0: -9223372036854775808≤n)(h1:n≤9223372036854775807):(itoaF n).length≤21:=by
 rw[itoaF_eq h0 h1];exact Lib.itoa_length_le n h0 h1
theorem tail_consC(c:UInt8)(y:List UInt8)(r:List (List UInt8)):Lib.joinTail [c] (y::r)=c::(y++Lib.joinTail [c] r):=by simp[Lib.joinTail]
def smallI(l:List Amount):Prop:=∀x∈l,-9223372036854775808≤x.n∧x.n≤9223372036854775807
theorem aText_len(x:Amount)(hk:x.name.length≤50)(h: -9223372036854775808≤x.n∧x.n≤9223372036854775807):(aText x).length≤103:=by
 have:=itoaF_len h.1 h.2
 simp[aText]
 omega
theorem aText_loop(l:List Amount)(hn:l.length≤20)(hf:∀x∈l,x.name.length≤50)(hs:smallI l)(hj:(Lib.join (l.map aText) [44]).length≤3000):∀(post:List Amount)(i:Nat)(acc:List (List UInt8))(bs:List (List AV))(hd:l.drop i=post)(ha:acc.length=i)(hall:acc++post.map aText=l.map aText)(T:Env)
 (hT:Has T [(3,rowF AV.str acc),(9,.sl .sh (l.map encA)),(10,.int .i64 l.length),(11,.int .i64 i)]),
 Goes cfg a19 k19_0 T ⟨bs,tkR AV.str acc,[]⟩ (IsRet (.str (Lib.join (l.map aText) [44]))):=by
 intro post
 induction post with
 |nil=>
  intro i acc bs hd ha hall T hT
  have hge:=drop_ge hd
  have e:acc=l.map aText:=by simpa using hall
  subst e
  exact goG 60 _ hT (.no (show(decide ((↑i:Int)<(↑l.length:Int)))=false from decide_eq_false (by simp;omega))<|.callG ([.sl (skF (l.map aText)) (List.map .str (l.map aText)),.str [(44:UInt8)]]) (.str (Lib.join (l.map aText) [(44:UInt8)])) (show Gives cfg (54:FuncId) [.sl .sh (List.map .str (l.map aText)),.str [(44:UInt8)]] (.str (Lib.join (l.map aText) [(44:UInt8)]))from join_any _ (by simp;omega) (by omega)) Shuts.p ⟨rfl,rfl⟩<|.fin ((.ret (.str (Lib.join (l.map aText) [(44:UInt8)])),{boxes:=bs,toks:=tkR .str (l.map aText),loops:=[]:Heap})) rfl) (by kernel_rfl)
 |cons x post ih=>
  intro i acc bs hd ha hall T hT
  have hlt:=drop_lt hd
  have hnx:=drop_next hd
  have hk:=hf x (drop_mem hd)
  obtain⟨s1,s2⟩:=hs x (drop_mem hd)
  have hl:=itoaF_len s1 s2
  have hall2:(acc++[aText x])++post.map aText=l.map aText:=by rw[←hall];simp
  have hall3:(acc++[x.name++[61]++itoaF x.n])++post.map aText=l.map aText:=hall2
  exact let ζ1:Heap:={boxes:=bs++[[AV.str x.name,.int .i64 x.n]],toks:=tkR .str acc,loops:=[]:Heap};let ζ2:Heap:={boxes:=bs++[[AV.str x.name,.int .i64 x.n]],toks:=tkR .str (acc++[x.name++[(61:UInt8)]++itoaF x.n]),loops:=[]:Heap};goG 60 _ hT (.yes (show(decide ((↑i:Int)<(↑l.length:Int)))=true from decide_eq_true (by simp;omega))<|.idx (show idxA 2 (.sl .sh (l.map encA)) (.int .i64 ↑i)=some (.ref (encA x).cells)from idx_row hd (by rfl))<|.load (show loadA true 2 {boxes:=bs,toks:=tkR .str acc,loops:=[]:Heap} (.ref [.str x.name,.int .i64 x.n])=some (.agg [.str x.name,.int .i64 x.n])from rfl)<|.store (show storeA 2 {boxes:=bs++[[AV.str [],.int .i64 0]],toks:=tkR .str acc,loops:=[]:Heap} (.ptr bs.length (0:Nat)) (.agg [.str x.name,.int .i64 x.n])=some (ζ1)from store_box2 (cs:=[.str [],.int .i64 0]) (cs':=[.str x.name,.int .i64 x.n]) (by simp+zetaDelta) rfl (by simp+zetaDelta [List.set_append]))<|.load (show loadA false 1 ζ1 (.ptr bs.length (0:Nat))=some (.str x.name)from load_box (cs:=[.str x.name,.int .i64 x.n]) (by simp+zetaDelta) rfl)<|.bin (show binA .add (.str x.name) (.str [(61:UInt8)])=some (.str (x.name++[(61:UInt8)]))from str_add (by simp;omega))<|.load (show loadA false 1 ζ1 (.ptr bs.length (1:Nat))=some (.int .i64 x.n)from load_box (cs:=[.str x.name,.int .i64 x.n]) (by simp+zetaDelta) rfl)<|.callI (show Gives cfg (53:FuncId) [.int .i64 x.n,.int .i64 10] (.str (itoaF x.n))from fmt_any _ s1 s2)<|.bin (show binA .add (.str (x.name++[(61:UInt8)])) (.str (itoaF x.n))=some (.str (x.name++[(61:UInt8)]++itoaF x.n))from str_add (by simp;omega))<|.append (show appendA (1:Nat) (16:Nat) ζ1 (.sl (skF acc) (List.map .str acc)) (.sl .full [.str (x.name++[(61:UInt8)]++itoaF x.n)])=some ((rowF .str (acc++[x.name++[(61:UInt8)]++itoaF x.n]),ζ2))from row_append_T _ (by simp;omega) (by exact lenSt) (by rfl) (by rfl))<|.bin (show binA .add (.int .i64 ↑i) (.int .i64 1)=some (.int .i64 (↑(i+1)))from inc_i (by omega))<|.cutQ k19_0 [(3,.sl (skF (acc++[x.name++[(61:UInt8)]++itoaF x.n])) (List.map .str (acc++[x.name++[(61:UInt8)]++itoaF x.n]))),(9,.sl .sh (l.map encA)),(10,.int .i64 (↑l.length)),(11,.int .i64 (↑(i+1)))] (ζ2) (fun T hT=>(ih (i+(1:Nat)) (acc++[x.name++[(61:UInt8)]++itoaF x.n]) (bs++[[AV.str x.name,.int .i64 x.n]]) hnx (by simp;omega) hall2 T hT))) (by kernel_rfl)
theorem aText_any(l:List Amount)(hf:fewA l=true)(hs:smallI l):Gives cfg 19 [.sl .sh (l.map encA)] (.str (textOf aText l)):=by
 have hn:=fewA_len hf
 have hf2:∀x∈l,x.name.length≤50:=by
  simp only[fewA,short1,Bool.and_eq_true,List.all_eq_true,decide_eq_true_eq]at hf
  exact hf.2
 have hj:(Lib.join (l.map aText) [44]).length≤3000:=join_len _ (by
  intro s hs'
  obtain⟨x,hx,rfl⟩:=List.mem_map.1 hs'
  exact aText_len x (hf2 x hx) (hs x hx)) (by simpa using hn)
 refine Gives.run (l19 _ _) ?_
 have h:=aText_loop l hn hf2 hs hj l 0 [] [] rfl rfl rfl
 by_cases hl:l=[]
 ·subst hl
  exact goG 60 [] trivial (.len (show lenA false (.sl .sh [])=some (.int .i64 (↑[].length:Int))from len_sl _ _)<|.tt<|.fin ((.ret (.str [(45:UInt8)]),{boxes:=[],toks:=[],loops:=[]:Heap})) rfl) (by kernel_rfl)
 ·have hp:0<l.length:=List.length_pos_iff.2 hl
  have e:textOf aText l=Lib.join (l.map aText) [44]:=by simp[textOf,hl]
  rw[e]
  exact goG 60 [] trivial (.len (show lenA false (.sl .sh (l.map encA))=some (.int .i64 (↑l.length))from len_map _)<|.no (show((↑l.length:Int)==(0:Int))=false from Bool.eq_false_iff.2 (by simp[hl]))<|.len (show lenA false (.sl .sh (l.map encA))=some (.int .i64 (↑l.length))from len_map _)<|.cutQ k19_0 [(3,.sl .full []),(9,.sl .sh (l.map encA)),(10,.int .i64 (↑l.length)),(11,.int .i64 0)] ({boxes:=[],toks:=[],loops:=[]:Heap}) (fun T hT=>(h T hT))) (by kernel_rfl)
end Go.Aa.T
set_option linter.unusedVariables false
set_option linter.unusedSimpArgs false
set_option maxRecDepth 100000
namespace Go.Aa.T
open Go.Aa Go.Proofs
theorem quo10(m:Nat)(h:m≤9223372036854775807):binA .quo (.int .i64 (m:Int)) (.int .i64 10)=some (.int .i64 ((m/10:Nat):Int)):=by
 have e:(m:Int).tdiv 10=((m/10:Nat):Int):=rfl
 simp only[binA,if_true,intBin,if_neg (show¬(10:Int)=0 by decide),e]
 rw[wrap_i64 (by omega) (by omega)]
theorem rem10(m:Nat):binA .rem (.int .i64 (m:Int)) (.int .i64 10)=some (.int .i64 ((m%10:Nat):Int)):=rem_nat (by decide)
theorem dig_u8(m:Nat):convA (.int .u8) (.int .i64 (48+((m%10:Nat):Int)))=some (.int .u8 (48+((m%10:Nat):Int))):=by
 have h:m%10<10:=Nat.mod_lt _ (by decide)
 generalize m%10=d at h⊢
 have e:IntKind.u8.wrap (48+(d:Int))=48+(d:Int):=by
  simp only[IntKind.wrap,IntKind.bits,IntKind.signed,Bool.false_and,Bool.false_eq_true,if_false]
  omega
 simp[convA,e]
theorem dig_str(m:Nat):convA .bytes (.sl .full [.int .u8 (48+((m%10:Nat):Int))])=some (.str [UInt8.ofNat (48+m%10)]):=by
 have h:m%10<10:=Nat.mod_lt _ (by decide)
 have key:∀d,d<10→convA .bytes (.sl .full [.int .u8 (48+(d:Nat))])=some (.str [UInt8.ofNat (48+d)]):=fun d hd=>by
  match d,hd with
  |0,_=>rfl
  |1,_=>rfl
  |2,_=>rfl
  |3,_=>rfl
  |4,_=>rfl
  |5,_=>rfl
  |6,_=>rfl
  |7,_=>rfl
  |8,_=>rfl
  |9,_=>rfl
 exact key _ h
def preD(m:Nat):List UInt8:=if m<10 then []else Lib.decDigits (m/10)
theorem preD_step{m:Nat}(h:¬m<10):preD m=preD (m/10)++[UInt8.ofNat (48+m/10%10)]:=by
 unfold preD
 rw[if_neg h]
 by_cases h2:m/10<10
 ·rw[if_pos h2,dec_one _ h2,Nat.mod_eq_of_lt h2];rfl
 ·rw[if_neg h2,dec_split _ h2]
theorem preD_dec(m:Nat):preD m++[UInt8.ofNat (48+m%10)]=Lib.decDigits m:=by
 unfold preD
 by_cases h:m<10
 ·rw[if_pos h,dec_one _ h,Nat.mod_eq_of_lt h];rfl
 ·rw[if_neg h,dec_split _ h]
theorem decimal_loop(total:List UInt8)(ht:total.length≤1000):∀(n m:Nat)(s:List UInt8)(hn:m<10^n)(hm:m≤9223372036854775807)(hs:preD m++s=total)(T:Env)(hT:Has T [(0,.int .i64 m),(3,.str s)]),
 Goes cfg a55 k55_0 T Heap.nil (IsRet (.str total)):=by
 intro n
 induction n with
 |zero=>
  intro m s hn hm hs T hT
  have:m=0:=by simpa using hn
  subst this
  have e:s=total:=by simpa[preD]using hs
  subst e
  exact goG 60 _ hT (.ff<|.fin ((.ret (.str s),{boxes:=[],toks:=[],loops:=[]:Heap})) rfl) (by kernel_rfl)
 |succ n ih=>
  intro m s hn hm hs T hT
  by_cases h10:m<10
  ·have e:s=total:=by simpa[preD,h10]using hs
   subst e
   exact goG 60 _ hT (.no (show(decide ((10:Int)≤(↑m:Int)))=false from decide_eq_false (by omega))<|.fin ((.ret (.str s),{boxes:=[],toks:=[],loops:=[]:Heap})) rfl) (by kernel_rfl)
  ·have hs2:preD (m/10)++([UInt8.ofNat (48+m/10%10)]++s)=total:=by
    rw[←hs,preD_step h10,List.append_assoc]
   have hlen:([UInt8.ofNat (48+m/10%10)]:List UInt8).length+s.length≤4611686018427387904:=by
    have:=congrArg List.length hs2
    simp only[List.length_append]at this⊢
    omega
   have ih':=ih (m/10) ([UInt8.ofNat (48+m/10%10)]++s) (by rw[Nat.pow_succ]at hn;omega) (by omega) hs2
   have q1:=quo10 m hm
   have q2:=rem10 (m/10)
   have q3:=dig_u8 (m/10)
   have q4:=dig_str (m/10)
   have q5:binA .add (.str [UInt8.ofNat (48+m/10%10)]) (.str s)=some (.str ([UInt8.ofNat (48+m/10%10)]++s)):=str_add hlen
   have hr:m/10%10<10:=Nat.mod_lt _ (by decide)
   generalize m/10%10=d at*
   generalize m/10=q at*
   exact goG 60 _ hT (.yes (show(decide ((10:Int)≤(↑m:Int)))=true from decide_eq_true (by omega))<|.bin (show binA .quo (.int .i64 ↑m) (.int .i64 10)=some (.int .i64 ↑q)from q1)<|.bin (show binA .rem (.int .i64 ↑q) (.int .i64 10)=some (.int .i64 ↑d)from q2)<|.bin (show binA .add (.int .i64 48) (.int .i64 ↑d)=some (.int .i64 ((48:Int)+(↑d:Int)))from addI (by omega) (by omega))<|.conv (show convA (CV.int IntKind.u8) (.int .i64 ((48:Int)+(↑d:Int)))=some (.int .u8 ((48:Int)+(↑d:Int)))from q3)<|.conv (show convA CV.bytes (.sl .full [.int .u8 ((48:Int)+(↑d:Int))])=some (.str [UInt8.ofNat ((48:Nat)+d)])from q4)<|.bin (show binA .add (.str [UInt8.ofNat ((48:Nat)+d)]) (.str s)=some (.str ([UInt8.ofNat ((48:Nat)+d)]++s))from q5)<|.cutQ k55_0 [(0,.int .i64 ↑q),(3,.str (UInt8.ofNat ((48:Nat)+d)::s))] ({boxes:=[],toks:=[],loops:=[]:Heap}) (fun T hT=>(ih' T hT))) (by kernel_rfl)
theorem decimal_any(m:Nat)(hm:m≤9223372036854775807):Gives cfg 55 [.int .i64 (m:Int)] (.str (itoaF m)):=by
 refine Gives.run (l55 _ _) ?_
 have hlen:(Lib.decDigits m).length≤1000:=by
  have:=itoaF_len (n:=(m:Int)) (by omega) (by omega)
  rw[itoa_nat hm]at this
  omega
 have h:=decimal_loop (Lib.decDigits m) hlen 20 m [UInt8.ofNat (48+m%10)] (by omega) hm (preD_dec m)
 rw[itoa_nat hm]
 have q2:=rem10 m
 have q3:=dig_u8 m
 have q4:=dig_str m
 have hr:m%10<10:=Nat.mod_lt _ (by decide)
 generalize m%10=d at*
 exact goG 60 [] trivial (.ff<|.bin (show binA .rem (.int .i64 ↑m) (.int .i64 10)=some (.int .i64 ↑d)from q2)<|.bin (show binA .add (.int .i64 48) (.int .i64 ↑d)=some (.int .i64 ((48:Int)+(↑d:Int)))from addI (by omega) (by omega))<|.conv (show convA (CV.int IntKind.u8) (.int .i64 ((48:Int)+(↑d:Int)))=some (.int .u8 ((48:Int)+(↑d:Int)))from q3)<|.conv (show convA CV.bytes (.sl .full [.int .u8 ((48:Int)+(↑d:Int))])=some (.str [UInt8.ofNat ((48:Nat)+d)])from q4)<|.cutQ k55_0 [(0,.int .i64 ↑m),(3,.str [UInt8.ofNat ((48:Nat)+d)])] ({boxes:=[],toks:=[],loops:=[]:Heap}) (fun T hT=>(h T hT))) (by kernel_rfl)
end Go.Aa.T
set_option linter.unusedVariables false
set_option linter.unusedSimpArgs false
set_option maxRecDepth 100000
namespace Go.Aa.T
open Go.Aa Go.Proofs
theorem aText_cons(x:Amount)(l:List Amount):textOf aText (x::l)=x.name++[61]++itoaF x.n++Lib.joinTail [44] (l.map aText):=by
 have e:textOf aText (x::l)=Lib.join (aText x::l.map aText) [44]:=by simp[textOf]
 rw[e,Lib.join_cons]
 rfl
theorem textOf_len3{X:Type}{f:X→List UInt8}{l:List X}(hn:l.length≤20)(h:∀x∈l,(f x).length≤103):(textOf f l).length≤10000:=by
 unfold textOf
 split
 ·simp
 ·have:=join_len (l.map f) (by
   intro s hs
   obtain⟨x,hx,rfl⟩:=List.mem_map.1 hs
   exact h x hx) (by simpa using hn)
  omega
theorem itoaF_neg{n:Int}(h0:n<0)(h1: -9223372036854775808<n):itoaF n=45::itoaF (0-n):=by
 unfold itoaF
 rw[if_pos h0,if_neg (by omega)]
 have:n.natAbs=(0-n).toNat:=by omega
 rw[this]
theorem decAll{n:Int}(h0: -9223372036854775808≤n)(h1:n≤9223372036854775807):Gives cfg 55 [.int .i64 n] (.str (itoaF n)):=by
 by_cases hn:0≤n
 ·obtain⟨k,hk⟩:=Int.eq_ofNat_of_zero_le hn
  have hk:n=(k:Int):=hk
  rw[hk]
  exact decimal_any k (by omega)
 ·refine Gives.run (l55 _ _) ?_
  by_cases hm:n= -9223372036854775808
  ·subst hm
   have e:itoaF (-9223372036854775808)=[45,57,50,50,51,51,55,50,48,51,54,56,53,52,55,55,53,56,48,56]:=by kernel_rfl
   rw[e]
   exact goG 60 [] trivial (.tt<|.tt<|.fin ((.ret (.str [(45:UInt8),(57:UInt8),(50:UInt8),(50:UInt8),(51:UInt8),(51:UInt8),(55:UInt8),(50:UInt8),(48:UInt8),(51:UInt8),(54:UInt8),(56:UInt8),(53:UInt8),(52:UInt8),(55:UInt8),(55:UInt8),(53:UInt8),(56:UInt8),(48:UInt8),(56:UInt8)]),{boxes:=[],toks:=[],loops:=[]:Heap})) rfl) (by kernel_rfl)
  ·obtain⟨k,hk⟩:=Int.eq_ofNat_of_zero_le (show 0≤0-n by omega)
   have hk:0-n=(k:Int):=hk
   have hd:=decimal_any k (by omega)
   rw[←hk]at hd
   rw[itoaF_neg (by omega) (by omega)]
   have hs:binA .sub (.int .i64 0) (.int .i64 n)=some (.int .i64 (0-n)):=subI (by omega) (by omega)
   have hl:=itoaF_len (n:=0-n) (by omega) (by omega)
   have ha:binA .add (.str [45]) (.str (itoaF (0-n)))=some (.str (45::itoaF (0-n))):=str_add (a:=[45]) (by simp only[List.length_append,List.length_cons,List.length_nil];omega)
   generalize itoaF (0-n)=w at*
   have h0':n<0:=by omega
   exact goG 60 [] trivial (.yes (show(decide (n<(0:Int)))=true from decide_eq_true (by omega))<|.no (show(n==(-9223372036854775808:Int))=false from Bool.eq_false_iff.2 (by simpa using hm))<|.bin (show binA .sub (.int .i64 0) (.int .i64 n)=some (.int .i64 ((0:Int)-n))from hs)<|.callI hd<|.bin (show binA .add (.str [(45:UInt8)]) (.str w)=some (.str ((45:UInt8)::w))from ha)<|.fin ((.ret (.str ((45:UInt8)::w)),{boxes:=[],toks:=[],loops:=[]:Heap})) rfl) (by kernel_rfl)
theorem aRef_loop(l:List Amount)(hn:l.length≤20)(hr:∀x∈l,-9223372036854775808≤x.n∧x.n≤9223372036854775807)(total:List UInt8)(ht:total.length≤10000):∀(post:List Amount)(i:Nat)(acc:List UInt8)(hd:l.drop i=post)(hi:0<i)(hs:acc++Lib.joinTail [44] (post.map aText)=total)(T:Env)(hT:Has T [(0,.sl .sh (l.map encA)),(3,.str acc),(4,.int .i64 i)]),
 Goes cfg a20 k20_0 T Heap.nil (IsRet (.str total)):=by
 intro post
 induction post with
 |nil=>
  intro i acc hd hi hs T hT
  have hge:=drop_ge hd
  have e:acc=total:=by rw[←hs];simp[Lib.joinTail]
  subst e
  exact goG 60 _ hT (.len (show lenA false (.sl .sh (l.map encA))=some (.int .i64 (↑l.length))from len_map _)<|.no (show(decide ((↑i:Int)<(↑l.length:Int)))=false from decide_eq_false (by omega))<|.fin ((.ret (.str acc),{boxes:=[],toks:=[],loops:=[]:Heap})) rfl) (by kernel_rfl)
 |cons x post ih=>
  intro i acc hd hi hs T hT
  have hlt:=drop_lt hd
  have hnx:=drop_next hd
  have hx:=hr x (drop_mem hd)
  have dd:=decAll hx.1 hx.2
  have hs2:acc++[44]++x.name++[61]++itoaF x.n++Lib.joinTail [44] (post.map aText)=total:=by
   rw[←hs];simp[tail_consC,aText]
  have hlen:=congrArg List.length hs2
  simp only[List.length_append,List.length_cons,List.length_nil]at hlen
  have a1:binA .add (.str acc) (.str [44])=some (.str (acc++[44])):=str_add (by simp;omega)
  have a2:binA .add (.str (acc++[44])) (.str x.name)=some (.str (acc++[44]++x.name)):=str_add (by simp;omega)
  have a3:binA .add (.str (acc++[44]++x.name)) (.str [61])=some (.str (acc++[44]++x.name++[61])):=str_add (by simp;omega)
  have a4:binA .add (.str (acc++[44]++x.name++[61])) (.str (itoaF x.n))=some (.str (acc++[44]++x.name++[61]++itoaF x.n)):=str_add (by simp;omega)
  have ih':=ih (i+1) _ hnx (by omega) hs2
  generalize acc++[44]++x.name++[61]++itoaF x.n=b4 at*
  generalize acc++[44]++x.name++[61]=b3 at*
  generalize acc++[44]++x.name=b2 at*
  generalize acc++[44]=b1 at*
  clear ih
  exact goG 60 _ hT (.len (show lenA false (.sl .sh (l.map encA))=some (.int .i64 (↑l.length))from len_map _)<|.yes (show(decide ((↑i:Int)<(↑l.length:Int)))=true from decide_eq_true (by omega))<|.yes (show(decide ((0:Int)<(↑i:Int)))=true from decide_eq_true (by omega))<|.bin (show binA .add (.str acc) (.str [(44:UInt8)])=some (.str b1)from a1)<|.idx (show idxA 2 (.sl .sh (l.map encA)) (.int .i64 ↑i)=some (.ref (encA x).cells)from idx_row hd (by rfl))<|.bin (show binA .add (.str b1) (.str x.name)=some (.str b2)from a2)<|.bin (show binA .add (.str b2) (.str [(61:UInt8)])=some (.str b3)from a3)<|.idx (show idxA 2 (.sl .sh (l.map encA)) (.int .i64 ↑i)=some (.ref (encA x).cells)from idx_row hd (by rfl))<|.callI dd<|.bin (show binA .add (.str b3) (.str (itoaF x.n))=some (.str b4)from a4)<|.bin (show binA .add (.int .i64 ↑i) (.int .i64 1)=some (.int .i64 (↑(i+1)))from inc_i (by omega))<|.cutQ k20_0 [(0,.sl .sh (l.map encA)),(3,.str b4),(4,.int .i64 (↑(i+1)))] ({boxes:=[],toks:=[],loops:=[]:Heap}) (fun T hT=>(ih' T hT))) (by kernel_rfl)
theorem aRef_0(l:List Amount)(x:Amount)(post:List Amount)(hd:l.drop 0=x::post)(hn:l.length≤20)(hr:∀x∈l,-9223372036854775808≤x.n∧x.n≤9223372036854775807)(total:List UInt8)(ht:total.length≤10000)(hs:x.name++[61]++itoaF x.n++Lib.joinTail [44] (post.map aText)=total)(i:Nat)(hi:i=0)(T:Env)(hT:Has T [(0,.sl .sh (l.map encA)),(3,.str []),(4,.int .i64 i)]):
 Goes cfg a20 k20_0 T Heap.nil (IsRet (.str total)):=by
 have hd':l.drop i=x::post:=by rw[hi];exact hd
 have hlt:=drop_lt hd'
 have hnx:=drop_next hd'
 have hx:=hr x (drop_mem hd')
 have dd:=decAll hx.1 hx.2
 have hlen:=congrArg List.length hs
 simp only[List.length_append,List.length_cons,List.length_nil]at hlen
 have a2:binA .add (.str []) (.str x.name)=some (.str x.name):=str_add (a:=[]) (by simp;omega)
 have a3:binA .add (.str x.name) (.str [61])=some (.str (x.name++[61])):=str_add (by simp;omega)
 have a4:binA .add (.str (x.name++[61])) (.str (itoaF x.n))=some (.str (x.name++[61]++itoaF x.n)):=str_add (by simp;omega)
 have ih':=aRef_loop l hn hr total ht post (i+1) _ hnx (by omega) hs
 have hgt:¬(0:Int)<(i:Int):=by omega
 generalize x.name++[61]++itoaF x.n=b4 at*
 generalize x.name++[61]=b3 at*
 exact goG 60 _ hT (.len (show lenA false (.sl .sh (l.map encA))=some (.int .i64 (↑l.length))from len_map _)<|.yes (show(decide ((↑i:Int)<(↑l.length:Int)))=true from decide_eq_true (by omega))<|.no (show(decide ((0:Int)<(↑i:Int)))=false from decide_eq_false (by omega))<|.idx (show idxA 2 (.sl .sh (l.map encA)) (.int .i64 ↑i)=some (.ref (encA x).cells)from idx_row hd' (by rfl))<|.bin (show binA .add (.str []) (.str x.name)=some (.str x.name)from a2)<|.bin (show binA .add (.str x.name) (.str [(61:UInt8)])=some (.str b3)from a3)<|.idx (show idxA 2 (.sl .sh (l.map encA)) (.int .i64 ↑i)=some (.ref (encA x).cells)from idx_row hd' (by rfl))<|.callI dd<|.bin (show binA .add (.str b3) (.str (itoaF x.n))=some (.str b4)from a4)<|.bin (show binA .add (.int .i64 ↑i) (.int .i64 1)=some (.int .i64 (↑(i+1)))from inc_i (by omega))<|.cutQ k20_0 [(0,.sl .sh (l.map encA)),(3,.str b4),(4,.int .i64 (↑(i+1)))] ({boxes:=[],toks:=[],loops:=[]:Heap}) (fun T hT=>(ih' T hT))) (by kernel_rfl)
theorem aText_ref(l:List Amount)(hf:fewA l=true)(hr:∀x∈l,-9223372036854775808≤x.n∧x.n≤9223372036854775807):Gives cfg 20 [.sl .sh (l.map encA)] (.str (textOf aText l)):=by
 have hn:=fewA_len hf
 have hlen:(textOf aText l).length≤10000:=textOf_len3 hn fun x hx=>aText_len x (by
  simp only[fewA,short1,Bool.and_eq_true,List.all_eq_true,decide_eq_true_eq]at hf
  exact hf.2 x hx) (by have:=hr x hx;omega)
 refine Gives.run (l20 _ _) ?_
 by_cases hl:l.length=0
 ·have e:textOf aText l=[45]:=by
   have:l=[]:=List.eq_nil_of_length_eq_zero hl
   subst this;rfl
  rw[e]
  have hz:((l.length:Int)==0)=true:=by rw[beq_iff_eq];omega
  exact goG 60 [] trivial (.len (show lenA false (.sl .sh (l.map encA))=some (.int .i64 (↑l.length))from len_map _)<|.yes (show((↑l.length:Int)==(0:Int))=true from(by exact hz))<|.fin ((.ret (.str [(45:UInt8)]),{boxes:=[],toks:=[],loops:=[]:Heap})) rfl) (by kernel_rfl)
 ·obtain⟨x,post,hd⟩:∃x post,l.drop 0=x::post:=by
   cases l with
   |nil=>simp at hl
   |cons x post=>exact⟨x,post,rfl⟩
  have e:x.name++[61]++itoaF x.n++Lib.joinTail [44] (post.map aText)=textOf aText l:=by
   rw[List.drop_zero]at hd
   subst hd
   exact(aText_cons x post).symm
  have h:=aRef_0 l x post hd hn hr _ hlen e 0 rfl
  generalize textOf aText l=tot at*
  have hz:¬(((l.length:Int)==0)=true):=by rw[beq_iff_eq];omega
  exact goG 60 [] trivial (.len (show lenA false (.sl .sh (l.map encA))=some (.int .i64 (↑l.length))from len_map _)<|.no (show((↑l.length:Int)==(0:Int))=false from Bool.eq_false_iff.2 (by exact hz))<|.cutQ k20_0 [(0,.sl .sh (l.map encA)),(3,.str []),(4,.int .i64 0)] ({boxes:=[],toks:=[],loops:=[]:Heap}) (fun T hT=>(h T hT))) (by kernel_rfl)
end Go.Aa.T
set_option linter.unusedVariables false
set_option linter.unusedSimpArgs false
set_option maxRecDepth 100000
namespace Go.Aa.T
open Go.Aa Go.Proofs
theorem known12':Gives cfg 12 [] (.bool true):=by
 obtain⟨H,h⟩:=known_ret12
 exact Gives.of h
end Go.Aa.T


