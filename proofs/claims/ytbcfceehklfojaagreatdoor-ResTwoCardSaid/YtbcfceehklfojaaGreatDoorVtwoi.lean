/-
  WHAT THE LAW LEANS ON, part 9 of 9: a machine of values and its soundness; the functions of the law upon it; what they come to.
-/
import Derived.Test.YtbcfceehklfojaaGreatDoorVtwoh
import Derived.Shelf.Sort.Plain
import Derived.Shelf.Slices.In.SortNone
import Derived.Shelf.Slices.In.SortAlone
import Derived.Shelf.Small.Strs
import Derived.Shelf.Spec.BitsCarry
import Derived.Shelf.Strconv.Itoa3
import Derived.Shelf.Strconv.Itoa4
import Derived.Shelf.Strconv.ParseIntPublic10
import Derived.Shelf.Strconv.ErrVarParseInt
import Derived.Shelf.Small.Strs
import Derived.Test.YtbcfceehklfojaaGreatDoorRows
import Derived.Stop.LaidErr
import Derived.JoinedOf
set_option linter.unusedVariables false
set_option linter.unusedSimpArgs false
set_option maxRecDepth 100000
namespace Go.Aa.T
open Go.Aa Go.Proofs
theorem same_eq(l:List Amount)(e:Int)(hl:l.length≤20):Gives cfg 23 [.sl .sh (l.map encA),.int .i64 e,.sl .sh (l.map encA),.int .i64 e] (.bool true):=by
 refine Gives.run (l23 _ _) ?_
 have o:=ofA_any l hl
 have s:=sameVR l l (by omega)
 rw[same2_refl eqA_iff]at s
 exact let ζ1:List AV:=[.sl .sh (l.map encA),.sl .sh (l.map encA)];goG 60 [] trivial (.yes (show(e==e)=true from(by simp+zetaDelta))<|.callG ([.sl .sh (l.map encA)]) (.sl .sh (l.map encA)) (show Gives cfg (14:FuncId) [.sl .sh (l.map encA)] (rowS Heap.nil (l.map encA))from o) ⟨rfl,rfl⟩ Res.p<|.callK (ζ1) (.bool true) (show Gives cfg (18:FuncId) ζ1 (.bool true)from s)<|.fin ((.ret (.bool true),{boxes:=[],toks:=[],loops:=[]:Heap})) rfl) (by kernel_rfl)
theorem madeV_len(g:OfQ)(vs:List (List Amount)):(madeV g vs).1.length≤8:=by
 unfold madeV
 split
 ·unfold finV
  split
  ·split
   ·simp
   ·simp only;omega
  ·simp
 ·simp
theorem resTwo(a b:List Amount)(n:Int)(ra:rgA a)(rb:rgA b)(rn:inI n):Gives cfg 3 [.sl .sh (a.map encA),.sl .sh (b.map encA),.int .i64 n] (.bool true):=by
 refine Gives.run (l3 _ _) ?_
 have f1:=fewA_any a
 have f2:=fewA_any b
 cases h1:fewA a with
 |false=>
  rw[h1]at f1
  exact goG 120 [] trivial (.callI known12'<|.ff<|.callI f1<|.tt<|.tt<|.fin ((.ret (.bool true),{boxes:=[],toks:=[],loops:=[]:Heap})) rfl) (by kernel_rfl)
 |true=>
  rw[h1]at f1
  cases h2:fewA b with
  |false=>
   rw[h2]at f2
   exact goG 120 [] trivial (.callI known12'<|.ff<|.callI f1<|.ff<|.callI f2<|.tt<|.fin ((.ret (.bool true),{boxes:=[],toks:=[],loops:=[]:Heap})) rfl) (by kernel_rfl)
  |true=>
   rw[h2]at f2
   have la:=fewA_len h1
   have lb:=fewA_len h2
   have o1:=ofA_any a la
   have o2:=ofA_any b lb
   have k1:=ckV_any a
   have k2:=ckV_ref a
   have k3:=ckV_ref b
   have s1:=sameV a b (by omega)
   have s2:=sameVR a b (by omega)
   have sa:smallI a:=fun x hx=>by have:=ra x hx;unfold inI at this;omega
   have t1:=aText_any a h1 sa
   have t2:=aText_ref a h1 sa
   have a1:=addV_any a b (by omega) (by omega) ra rb
   obtain⟨c1,a2⟩:=addR a b (by omega) (by omega) ra rb
   have a3:=same_eq (addV a b).1 (addV a b).2 (by have:=madeV_len (fun s=>addQ (getQ a s) (getQ b s)) [a,b];unfold addV;omega)
   have b1:=subV_any a b (by omega) (by omega) ra rb
   obtain⟨c2,b2⟩:=subR a b (by omega) (by omega) ra rb
   have b3:=same_eq (subV a b).1 (subV a b).2 (by have:=madeV_len (fun s=>subQ (getQ a s) (getQ b s)) [a,b];unfold subV;omega)
   have m1:=timesV_any a n (by omega) ra rn
   have m2:=timesV_ref a n (by omega) ra rn
   have m3:=same_eq (timesV a n).1 (timesV a n).2 (by have:=madeV_len (fun s=>mulQ (getQ a s) n) [a];unfold timesV;omega)
   have p1:=partV_any a n (by omega) ra rn
   have p2:=partV_ref a n (by omega) ra rn
   have p3:=same_eq (partV a n).1 (partV a n).2 (by have:=madeV_len (fun s=>partQ (getQ a s) n) [a];unfold partV;omega)
   have q1:=fits_any a b (by omega) (by omega)
   have q2:=fits_ref a b (by omega) (by omega)
   generalize addV a b=A at a1 a2 a3
   generalize subV a b=B at b1 b2 b3
   generalize timesV a n=M at m1 m2 m3
   generalize partV a n=P at p1 p2 p3
   obtain⟨Al,Ae⟩:=A
   obtain⟨Bl,Be⟩:=B
   obtain⟨Ml,Me⟩:=M
   obtain⟨Pl,Pe⟩:=P
   simp only at a1 a3 b1 b3 m1 m2 m3 p1 p2 p3
   have a2:Gives cfg 22 [.sl .sh (a.map encA),.sl .sh (b.map encA)] (.tuple [.sl (kq c1) (Al.map encA),.int .i64 Ae]):=a2
   have b2:Gives cfg 25 [.sl .sh (a.map encA),.sl .sh (b.map encA)] (.tuple [.sl (kq c2) (Bl.map encA),.int .i64 Be]):=b2
   generalize textOf aText a=tx at t1 t2
   generalize same2 eqA a b=sv at s1 s2
   generalize fitsV a b=fv at q1 q2
   generalize ckV a=x at k1 k2
   generalize ckV b=y at k3
   cases sv with
   |false=>
    by_cases e1:x=0
    ·subst e1
     by_cases e2:y=0
     ·subst e2
      cases fv with
      |false=>
       exact let ζ1:List AV:=[.sl .sh (a.map encA),.sl .sh (b.map encA)];let ζ2:Heap:={boxes:=[],toks:=[],loops:=[]:Heap};let ζ3:List AV:=[.sl .sh (a.map encA),.int .i64 n];let ζ4:List AV:=[.sl .sh (Al.map encA),.int .i64 Ae,.sl .sh (Al.map encA),.int .i64 Ae];let ζ5:List AV:=[.sl .sh (Bl.map encA),.int .i64 Be,.sl .sh (Bl.map encA),.int .i64 Be];let ζ6:List AV:=[.sl .sh (Ml.map encA),.int .i64 Me,.sl .sh (Ml.map encA),.int .i64 Me];let ζ7:List AV:=[.sl .sh (Pl.map encA),.int .i64 Pe,.sl .sh (Pl.map encA),.int .i64 Pe];let ζ8:List AV:=[.sl .sh (Al.map encA),.int .i64 Ae];let ζ9:List AV:=[.sl .sh (Bl.map encA),.int .i64 Be];let ζ10:List AV:=[.sl .sh (Ml.map encA),.int .i64 Me];let ζ11:List AV:=[.sl .sh (Pl.map encA),.int .i64 Pe];goG 400 [] trivial (.callI known12'<|.ff<|.callI f1<|.ff<|.callI f2<|.ff<|.callG ([.sl .sh (a.map encA)]) (.sl .sh (a.map encA)) (show Gives cfg (14:FuncId) [.sl .sh (a.map encA)] (rowS Heap.nil (a.map encA))from o1) ⟨rfl,rfl⟩ Res.p<|.callG ([.sl .sh (b.map encA)]) (.sl .sh (b.map encA)) (show Gives cfg (14:FuncId) [.sl .sh (b.map encA)] (rowS Heap.nil (b.map encA))from o2) ⟨rfl,rfl⟩ Res.p<|.callI k1<|.callI k2<|.ff<|.callK (ζ1) (.bool false) (show Gives cfg (17:FuncId) ζ1 (.bool false)from s1)<|.callK (ζ1) (.bool false) (show Gives cfg (18:FuncId) ζ1 (.bool false)from s2)<|.ff<|.callI t1<|.callI t2<|.no (show(!tx==tx)=false from by have hh:(tx==tx)=true:=(by simp+zetaDelta);simp[hh])<|.callK (ζ1) (.tuple ζ8) (show Gives cfg (21:FuncId) ζ1 (.tuple ζ8)from a1)<|.callG (ζ1) (.tuple ζ8) (show Gives cfg (22:FuncId) ζ1 (.tuple [.sl (kq c1) (Al.map encA),.int .i64 Ae])from a2) ⟨rfl,rfl⟩ Res.p<|.callK (ζ4) (.bool true) (show Gives cfg (23:FuncId) ζ4 (.bool true)from a3)<|.ff<|.callK (ζ1) (.tuple ζ9) (show Gives cfg (24:FuncId) ζ1 (.tuple ζ9)from b1)<|.callG (ζ1) (.tuple ζ9) (show Gives cfg (25:FuncId) ζ1 (.tuple [.sl (kq c2) (Bl.map encA),.int .i64 Be])from b2) ⟨rfl,rfl⟩ Res.p<|.callK (ζ5) (.bool true) (show Gives cfg (23:FuncId) ζ5 (.bool true)from b3)<|.ff<|.callK (ζ3) (.tuple ζ10) (show Gives cfg (26:FuncId) ζ3 (.tuple ζ10)from m1)<|.effY (show Does cfg (.call (.c (.func (27:FuncId) [])) [.c (.sl .sh (a.map encA)),.c (.int .i64 n)]) ζ2 (.tuple ζ10) ζ2 from m2 _)<|.callK (ζ6) (.bool true) (show Gives cfg (23:FuncId) ζ6 (.bool true)from m3)<|.ff<|.callK (ζ3) (.tuple ζ11) (show Gives cfg (28:FuncId) ζ3 (.tuple ζ11)from p1)<|.effY (show Does cfg (.call (.c (.func (29:FuncId) [])) [.c (.sl .sh (a.map encA)),.c (.int .i64 n)]) ζ2 (.tuple ζ11) ζ2 from p2 _)<|.callK (ζ7) (.bool true) (show Gives cfg (23:FuncId) ζ7 (.bool true)from p3)<|.ff<|.callI k2<|.ff<|.callI k3<|.ff<|.callK (ζ1) (.bool false) (show Gives cfg (30:FuncId) ζ1 (.bool false)from q1)<|.callK (ζ1) (.bool false) (show Gives cfg (31:FuncId) ζ1 (.bool false)from q2)<|.fin ((.ret (.bool (if false=true then !false==false else false==false)),ζ2)) rfl) (by kernel_rfl)
      |true=>
       exact let ζ1:List AV:=[.sl .sh (a.map encA),.sl .sh (b.map encA)];let ζ2:Heap:={boxes:=[],toks:=[],loops:=[]:Heap};let ζ3:List AV:=[.sl .sh (a.map encA),.int .i64 n];let ζ4:List AV:=[.sl .sh (Al.map encA),.int .i64 Ae,.sl .sh (Al.map encA),.int .i64 Ae];let ζ5:List AV:=[.sl .sh (Bl.map encA),.int .i64 Be,.sl .sh (Bl.map encA),.int .i64 Be];let ζ6:List AV:=[.sl .sh (Ml.map encA),.int .i64 Me,.sl .sh (Ml.map encA),.int .i64 Me];let ζ7:List AV:=[.sl .sh (Pl.map encA),.int .i64 Pe,.sl .sh (Pl.map encA),.int .i64 Pe];let ζ8:List AV:=[.sl .sh (Al.map encA),.int .i64 Ae];let ζ9:List AV:=[.sl .sh (Bl.map encA),.int .i64 Be];let ζ10:List AV:=[.sl .sh (Ml.map encA),.int .i64 Me];let ζ11:List AV:=[.sl .sh (Pl.map encA),.int .i64 Pe];goG 400 [] trivial (.callI known12'<|.ff<|.callI f1<|.ff<|.callI f2<|.ff<|.callG ([.sl .sh (a.map encA)]) (.sl .sh (a.map encA)) (show Gives cfg (14:FuncId) [.sl .sh (a.map encA)] (rowS Heap.nil (a.map encA))from o1) ⟨rfl,rfl⟩ Res.p<|.callG ([.sl .sh (b.map encA)]) (.sl .sh (b.map encA)) (show Gives cfg (14:FuncId) [.sl .sh (b.map encA)] (rowS Heap.nil (b.map encA))from o2) ⟨rfl,rfl⟩ Res.p<|.callI k1<|.callI k2<|.ff<|.callK (ζ1) (.bool false) (show Gives cfg (17:FuncId) ζ1 (.bool false)from s1)<|.callK (ζ1) (.bool false) (show Gives cfg (18:FuncId) ζ1 (.bool false)from s2)<|.ff<|.callI t1<|.callI t2<|.no (show(!tx==tx)=false from by have hh:(tx==tx)=true:=(by simp+zetaDelta);simp[hh])<|.callK (ζ1) (.tuple ζ8) (show Gives cfg (21:FuncId) ζ1 (.tuple ζ8)from a1)<|.callG (ζ1) (.tuple ζ8) (show Gives cfg (22:FuncId) ζ1 (.tuple [.sl (kq c1) (Al.map encA),.int .i64 Ae])from a2) ⟨rfl,rfl⟩ Res.p<|.callK (ζ4) (.bool true) (show Gives cfg (23:FuncId) ζ4 (.bool true)from a3)<|.ff<|.callK (ζ1) (.tuple ζ9) (show Gives cfg (24:FuncId) ζ1 (.tuple ζ9)from b1)<|.callG (ζ1) (.tuple ζ9) (show Gives cfg (25:FuncId) ζ1 (.tuple [.sl (kq c2) (Bl.map encA),.int .i64 Be])from b2) ⟨rfl,rfl⟩ Res.p<|.callK (ζ5) (.bool true) (show Gives cfg (23:FuncId) ζ5 (.bool true)from b3)<|.ff<|.callK (ζ3) (.tuple ζ10) (show Gives cfg (26:FuncId) ζ3 (.tuple ζ10)from m1)<|.effY (show Does cfg (.call (.c (.func (27:FuncId) [])) [.c (.sl .sh (a.map encA)),.c (.int .i64 n)]) ζ2 (.tuple ζ10) ζ2 from m2 _)<|.callK (ζ6) (.bool true) (show Gives cfg (23:FuncId) ζ6 (.bool true)from m3)<|.ff<|.callK (ζ3) (.tuple ζ11) (show Gives cfg (28:FuncId) ζ3 (.tuple ζ11)from p1)<|.effY (show Does cfg (.call (.c (.func (29:FuncId) [])) [.c (.sl .sh (a.map encA)),.c (.int .i64 n)]) ζ2 (.tuple ζ11) ζ2 from p2 _)<|.callK (ζ7) (.bool true) (show Gives cfg (23:FuncId) ζ7 (.bool true)from p3)<|.ff<|.callI k2<|.ff<|.callI k3<|.ff<|.callK (ζ1) (.bool true) (show Gives cfg (30:FuncId) ζ1 (.bool true)from q1)<|.callK (ζ1) (.bool true) (show Gives cfg (31:FuncId) ζ1 (.bool true)from q2)<|.fin ((.ret (.bool (if false=true then !true==true else true==true)),ζ2)) rfl) (by kernel_rfl)
     ·exact let ζ1:List AV:=[.sl .sh (a.map encA),.sl .sh (b.map encA)];let ζ2:Heap:={boxes:=[],toks:=[],loops:=[]:Heap};let ζ3:List AV:=[.sl .sh (a.map encA),.int .i64 n];let ζ4:List AV:=[.sl .sh (Al.map encA),.int .i64 Ae,.sl .sh (Al.map encA),.int .i64 Ae];let ζ5:List AV:=[.sl .sh (Bl.map encA),.int .i64 Be,.sl .sh (Bl.map encA),.int .i64 Be];let ζ6:List AV:=[.sl .sh (Ml.map encA),.int .i64 Me,.sl .sh (Ml.map encA),.int .i64 Me];let ζ7:List AV:=[.sl .sh (Pl.map encA),.int .i64 Pe,.sl .sh (Pl.map encA),.int .i64 Pe];let ζ8:List AV:=[.sl .sh (Al.map encA),.int .i64 Ae];let ζ9:List AV:=[.sl .sh (Bl.map encA),.int .i64 Be];let ζ10:List AV:=[.sl .sh (Ml.map encA),.int .i64 Me];let ζ11:List AV:=[.sl .sh (Pl.map encA),.int .i64 Pe];goG 400 [] trivial (.callI known12'<|.ff<|.callI f1<|.ff<|.callI f2<|.ff<|.callG ([.sl .sh (a.map encA)]) (.sl .sh (a.map encA)) (show Gives cfg (14:FuncId) [.sl .sh (a.map encA)] (rowS Heap.nil (a.map encA))from o1) ⟨rfl,rfl⟩ Res.p<|.callG ([.sl .sh (b.map encA)]) (.sl .sh (b.map encA)) (show Gives cfg (14:FuncId) [.sl .sh (b.map encA)] (rowS Heap.nil (b.map encA))from o2) ⟨rfl,rfl⟩ Res.p<|.callI k1<|.callI k2<|.ff<|.callK (ζ1) (.bool false) (show Gives cfg (17:FuncId) ζ1 (.bool false)from s1)<|.callK (ζ1) (.bool false) (show Gives cfg (18:FuncId) ζ1 (.bool false)from s2)<|.ff<|.callI t1<|.callI t2<|.no (show(!tx==tx)=false from by have hh:(tx==tx)=true:=(by simp+zetaDelta);simp[hh])<|.callK (ζ1) (.tuple ζ8) (show Gives cfg (21:FuncId) ζ1 (.tuple ζ8)from a1)<|.callG (ζ1) (.tuple ζ8) (show Gives cfg (22:FuncId) ζ1 (.tuple [.sl (kq c1) (Al.map encA),.int .i64 Ae])from a2) ⟨rfl,rfl⟩ Res.p<|.callK (ζ4) (.bool true) (show Gives cfg (23:FuncId) ζ4 (.bool true)from a3)<|.ff<|.callK (ζ1) (.tuple ζ9) (show Gives cfg (24:FuncId) ζ1 (.tuple ζ9)from b1)<|.callG (ζ1) (.tuple ζ9) (show Gives cfg (25:FuncId) ζ1 (.tuple [.sl (kq c2) (Bl.map encA),.int .i64 Be])from b2) ⟨rfl,rfl⟩ Res.p<|.callK (ζ5) (.bool true) (show Gives cfg (23:FuncId) ζ5 (.bool true)from b3)<|.ff<|.callK (ζ3) (.tuple ζ10) (show Gives cfg (26:FuncId) ζ3 (.tuple ζ10)from m1)<|.effY (show Does cfg (.call (.c (.func (27:FuncId) [])) [.c (.sl .sh (a.map encA)),.c (.int .i64 n)]) ζ2 (.tuple ζ10) ζ2 from m2 _)<|.callK (ζ6) (.bool true) (show Gives cfg (23:FuncId) ζ6 (.bool true)from m3)<|.ff<|.callK (ζ3) (.tuple ζ11) (show Gives cfg (28:FuncId) ζ3 (.tuple ζ11)from p1)<|.effY (show Does cfg (.call (.c (.func (29:FuncId) [])) [.c (.sl .sh (a.map encA)),.c (.int .i64 n)]) ζ2 (.tuple ζ11) ζ2 from p2 _)<|.callK (ζ7) (.bool true) (show Gives cfg (23:FuncId) ζ7 (.bool true)from p3)<|.ff<|.callI k2<|.ff<|.callI k3<|.yes (show(y !=(0:Int))=true from(by simpa using e2))<|.fin ((.ret (.bool true),ζ2)) rfl) (by kernel_rfl)
    ·exact let ζ1:List AV:=[.sl .sh (a.map encA),.sl .sh (b.map encA)];let ζ2:Heap:={boxes:=[],toks:=[],loops:=[]:Heap};let ζ3:List AV:=[.sl .sh (a.map encA),.int .i64 n];let ζ4:List AV:=[.sl .sh (Al.map encA),.int .i64 Ae,.sl .sh (Al.map encA),.int .i64 Ae];let ζ5:List AV:=[.sl .sh (Bl.map encA),.int .i64 Be,.sl .sh (Bl.map encA),.int .i64 Be];let ζ6:List AV:=[.sl .sh (Ml.map encA),.int .i64 Me,.sl .sh (Ml.map encA),.int .i64 Me];let ζ7:List AV:=[.sl .sh (Pl.map encA),.int .i64 Pe,.sl .sh (Pl.map encA),.int .i64 Pe];let ζ8:List AV:=[.sl .sh (Al.map encA),.int .i64 Ae];let ζ9:List AV:=[.sl .sh (Bl.map encA),.int .i64 Be];let ζ10:List AV:=[.sl .sh (Ml.map encA),.int .i64 Me];let ζ11:List AV:=[.sl .sh (Pl.map encA),.int .i64 Pe];goG 400 [] trivial (.callI known12'<|.ff<|.callI f1<|.ff<|.callI f2<|.ff<|.callG ([.sl .sh (a.map encA)]) (.sl .sh (a.map encA)) (show Gives cfg (14:FuncId) [.sl .sh (a.map encA)] (rowS Heap.nil (a.map encA))from o1) ⟨rfl,rfl⟩ Res.p<|.callG ([.sl .sh (b.map encA)]) (.sl .sh (b.map encA)) (show Gives cfg (14:FuncId) [.sl .sh (b.map encA)] (rowS Heap.nil (b.map encA))from o2) ⟨rfl,rfl⟩ Res.p<|.callI k1<|.callI k2<|.no (show(x !=x)=false from Bool.eq_false_iff.2 (by simp+zetaDelta))<|.callK (ζ1) (.bool false) (show Gives cfg (17:FuncId) ζ1 (.bool false)from s1)<|.callK (ζ1) (.bool false) (show Gives cfg (18:FuncId) ζ1 (.bool false)from s2)<|.ff<|.callI t1<|.callI t2<|.no (show(!tx==tx)=false from by have hh:(tx==tx)=true:=(by simp+zetaDelta);simp[hh])<|.callK (ζ1) (.tuple ζ8) (show Gives cfg (21:FuncId) ζ1 (.tuple ζ8)from a1)<|.callG (ζ1) (.tuple ζ8) (show Gives cfg (22:FuncId) ζ1 (.tuple [.sl (kq c1) (Al.map encA),.int .i64 Ae])from a2) ⟨rfl,rfl⟩ Res.p<|.callK (ζ4) (.bool true) (show Gives cfg (23:FuncId) ζ4 (.bool true)from a3)<|.ff<|.callK (ζ1) (.tuple ζ9) (show Gives cfg (24:FuncId) ζ1 (.tuple ζ9)from b1)<|.callG (ζ1) (.tuple ζ9) (show Gives cfg (25:FuncId) ζ1 (.tuple [.sl (kq c2) (Bl.map encA),.int .i64 Be])from b2) ⟨rfl,rfl⟩ Res.p<|.callK (ζ5) (.bool true) (show Gives cfg (23:FuncId) ζ5 (.bool true)from b3)<|.ff<|.callK (ζ3) (.tuple ζ10) (show Gives cfg (26:FuncId) ζ3 (.tuple ζ10)from m1)<|.effY (show Does cfg (.call (.c (.func (27:FuncId) [])) [.c (.sl .sh (a.map encA)),.c (.int .i64 n)]) ζ2 (.tuple ζ10) ζ2 from m2 _)<|.callK (ζ6) (.bool true) (show Gives cfg (23:FuncId) ζ6 (.bool true)from m3)<|.ff<|.callK (ζ3) (.tuple ζ11) (show Gives cfg (28:FuncId) ζ3 (.tuple ζ11)from p1)<|.effY (show Does cfg (.call (.c (.func (29:FuncId) [])) [.c (.sl .sh (a.map encA)),.c (.int .i64 n)]) ζ2 (.tuple ζ11) ζ2 from p2 _)<|.callK (ζ7) (.bool true) (show Gives cfg (23:FuncId) ζ7 (.bool true)from p3)<|.ff<|.callI k2<|.yes (show(x !=(0:Int))=true from(by simpa using e1))<|.tt<|.fin ((.ret (.bool true),ζ2)) rfl) (by kernel_rfl)
   |true=>
    by_cases e1:x=0
    ·subst e1
     by_cases e2:y=0
     ·subst e2
      cases fv with
      |false=>
       exact let ζ1:List AV:=[.sl .sh (a.map encA),.sl .sh (b.map encA)];let ζ2:Heap:={boxes:=[],toks:=[],loops:=[]:Heap};let ζ3:List AV:=[.sl .sh (a.map encA),.int .i64 n];let ζ4:List AV:=[.sl .sh (Al.map encA),.int .i64 Ae,.sl .sh (Al.map encA),.int .i64 Ae];let ζ5:List AV:=[.sl .sh (Bl.map encA),.int .i64 Be,.sl .sh (Bl.map encA),.int .i64 Be];let ζ6:List AV:=[.sl .sh (Ml.map encA),.int .i64 Me,.sl .sh (Ml.map encA),.int .i64 Me];let ζ7:List AV:=[.sl .sh (Pl.map encA),.int .i64 Pe,.sl .sh (Pl.map encA),.int .i64 Pe];let ζ8:List AV:=[.sl .sh (Al.map encA),.int .i64 Ae];let ζ9:List AV:=[.sl .sh (Bl.map encA),.int .i64 Be];let ζ10:List AV:=[.sl .sh (Ml.map encA),.int .i64 Me];let ζ11:List AV:=[.sl .sh (Pl.map encA),.int .i64 Pe];goG 400 [] trivial (.callI known12'<|.ff<|.callI f1<|.ff<|.callI f2<|.ff<|.callG ([.sl .sh (a.map encA)]) (.sl .sh (a.map encA)) (show Gives cfg (14:FuncId) [.sl .sh (a.map encA)] (rowS Heap.nil (a.map encA))from o1) ⟨rfl,rfl⟩ Res.p<|.callG ([.sl .sh (b.map encA)]) (.sl .sh (b.map encA)) (show Gives cfg (14:FuncId) [.sl .sh (b.map encA)] (rowS Heap.nil (b.map encA))from o2) ⟨rfl,rfl⟩ Res.p<|.callI k1<|.callI k2<|.ff<|.callK (ζ1) (.bool true) (show Gives cfg (17:FuncId) ζ1 (.bool true)from s1)<|.callK (ζ1) (.bool true) (show Gives cfg (18:FuncId) ζ1 (.bool true)from s2)<|.ff<|.callI t1<|.callI t2<|.no (show(!tx==tx)=false from by have hh:(tx==tx)=true:=(by simp+zetaDelta);simp[hh])<|.callK (ζ1) (.tuple ζ8) (show Gives cfg (21:FuncId) ζ1 (.tuple ζ8)from a1)<|.callG (ζ1) (.tuple ζ8) (show Gives cfg (22:FuncId) ζ1 (.tuple [.sl (kq c1) (Al.map encA),.int .i64 Ae])from a2) ⟨rfl,rfl⟩ Res.p<|.callK (ζ4) (.bool true) (show Gives cfg (23:FuncId) ζ4 (.bool true)from a3)<|.ff<|.callK (ζ1) (.tuple ζ9) (show Gives cfg (24:FuncId) ζ1 (.tuple ζ9)from b1)<|.callG (ζ1) (.tuple ζ9) (show Gives cfg (25:FuncId) ζ1 (.tuple [.sl (kq c2) (Bl.map encA),.int .i64 Be])from b2) ⟨rfl,rfl⟩ Res.p<|.callK (ζ5) (.bool true) (show Gives cfg (23:FuncId) ζ5 (.bool true)from b3)<|.ff<|.callK (ζ3) (.tuple ζ10) (show Gives cfg (26:FuncId) ζ3 (.tuple ζ10)from m1)<|.effY (show Does cfg (.call (.c (.func (27:FuncId) [])) [.c (.sl .sh (a.map encA)),.c (.int .i64 n)]) ζ2 (.tuple ζ10) ζ2 from m2 _)<|.callK (ζ6) (.bool true) (show Gives cfg (23:FuncId) ζ6 (.bool true)from m3)<|.ff<|.callK (ζ3) (.tuple ζ11) (show Gives cfg (28:FuncId) ζ3 (.tuple ζ11)from p1)<|.effY (show Does cfg (.call (.c (.func (29:FuncId) [])) [.c (.sl .sh (a.map encA)),.c (.int .i64 n)]) ζ2 (.tuple ζ11) ζ2 from p2 _)<|.callK (ζ7) (.bool true) (show Gives cfg (23:FuncId) ζ7 (.bool true)from p3)<|.ff<|.callI k2<|.ff<|.callI k3<|.ff<|.callK (ζ1) (.bool false) (show Gives cfg (30:FuncId) ζ1 (.bool false)from q1)<|.callK (ζ1) (.bool false) (show Gives cfg (31:FuncId) ζ1 (.bool false)from q2)<|.fin ((.ret (.bool (if false=true then !false==false else false==false)),ζ2)) rfl) (by kernel_rfl)
      |true=>
       exact let ζ1:List AV:=[.sl .sh (a.map encA),.sl .sh (b.map encA)];let ζ2:Heap:={boxes:=[],toks:=[],loops:=[]:Heap};let ζ3:List AV:=[.sl .sh (a.map encA),.int .i64 n];let ζ4:List AV:=[.sl .sh (Al.map encA),.int .i64 Ae,.sl .sh (Al.map encA),.int .i64 Ae];let ζ5:List AV:=[.sl .sh (Bl.map encA),.int .i64 Be,.sl .sh (Bl.map encA),.int .i64 Be];let ζ6:List AV:=[.sl .sh (Ml.map encA),.int .i64 Me,.sl .sh (Ml.map encA),.int .i64 Me];let ζ7:List AV:=[.sl .sh (Pl.map encA),.int .i64 Pe,.sl .sh (Pl.map encA),.int .i64 Pe];let ζ8:List AV:=[.sl .sh (Al.map encA),.int .i64 Ae];let ζ9:List AV:=[.sl .sh (Bl.map encA),.int .i64 Be];let ζ10:List AV:=[.sl .sh (Ml.map encA),.int .i64 Me];let ζ11:List AV:=[.sl .sh (Pl.map encA),.int .i64 Pe];goG 400 [] trivial (.callI known12'<|.ff<|.callI f1<|.ff<|.callI f2<|.ff<|.callG ([.sl .sh (a.map encA)]) (.sl .sh (a.map encA)) (show Gives cfg (14:FuncId) [.sl .sh (a.map encA)] (rowS Heap.nil (a.map encA))from o1) ⟨rfl,rfl⟩ Res.p<|.callG ([.sl .sh (b.map encA)]) (.sl .sh (b.map encA)) (show Gives cfg (14:FuncId) [.sl .sh (b.map encA)] (rowS Heap.nil (b.map encA))from o2) ⟨rfl,rfl⟩ Res.p<|.callI k1<|.callI k2<|.ff<|.callK (ζ1) (.bool true) (show Gives cfg (17:FuncId) ζ1 (.bool true)from s1)<|.callK (ζ1) (.bool true) (show Gives cfg (18:FuncId) ζ1 (.bool true)from s2)<|.ff<|.callI t1<|.callI t2<|.no (show(!tx==tx)=false from by have hh:(tx==tx)=true:=(by simp+zetaDelta);simp[hh])<|.callK (ζ1) (.tuple ζ8) (show Gives cfg (21:FuncId) ζ1 (.tuple ζ8)from a1)<|.callG (ζ1) (.tuple ζ8) (show Gives cfg (22:FuncId) ζ1 (.tuple [.sl (kq c1) (Al.map encA),.int .i64 Ae])from a2) ⟨rfl,rfl⟩ Res.p<|.callK (ζ4) (.bool true) (show Gives cfg (23:FuncId) ζ4 (.bool true)from a3)<|.ff<|.callK (ζ1) (.tuple ζ9) (show Gives cfg (24:FuncId) ζ1 (.tuple ζ9)from b1)<|.callG (ζ1) (.tuple ζ9) (show Gives cfg (25:FuncId) ζ1 (.tuple [.sl (kq c2) (Bl.map encA),.int .i64 Be])from b2) ⟨rfl,rfl⟩ Res.p<|.callK (ζ5) (.bool true) (show Gives cfg (23:FuncId) ζ5 (.bool true)from b3)<|.ff<|.callK (ζ3) (.tuple ζ10) (show Gives cfg (26:FuncId) ζ3 (.tuple ζ10)from m1)<|.effY (show Does cfg (.call (.c (.func (27:FuncId) [])) [.c (.sl .sh (a.map encA)),.c (.int .i64 n)]) ζ2 (.tuple ζ10) ζ2 from m2 _)<|.callK (ζ6) (.bool true) (show Gives cfg (23:FuncId) ζ6 (.bool true)from m3)<|.ff<|.callK (ζ3) (.tuple ζ11) (show Gives cfg (28:FuncId) ζ3 (.tuple ζ11)from p1)<|.effY (show Does cfg (.call (.c (.func (29:FuncId) [])) [.c (.sl .sh (a.map encA)),.c (.int .i64 n)]) ζ2 (.tuple ζ11) ζ2 from p2 _)<|.callK (ζ7) (.bool true) (show Gives cfg (23:FuncId) ζ7 (.bool true)from p3)<|.ff<|.callI k2<|.ff<|.callI k3<|.ff<|.callK (ζ1) (.bool true) (show Gives cfg (30:FuncId) ζ1 (.bool true)from q1)<|.callK (ζ1) (.bool true) (show Gives cfg (31:FuncId) ζ1 (.bool true)from q2)<|.fin ((.ret (.bool (if false=true then !true==true else true==true)),ζ2)) rfl) (by kernel_rfl)
     ·exact let ζ1:List AV:=[.sl .sh (a.map encA),.sl .sh (b.map encA)];let ζ2:Heap:={boxes:=[],toks:=[],loops:=[]:Heap};let ζ3:List AV:=[.sl .sh (a.map encA),.int .i64 n];let ζ4:List AV:=[.sl .sh (Al.map encA),.int .i64 Ae,.sl .sh (Al.map encA),.int .i64 Ae];let ζ5:List AV:=[.sl .sh (Bl.map encA),.int .i64 Be,.sl .sh (Bl.map encA),.int .i64 Be];let ζ6:List AV:=[.sl .sh (Ml.map encA),.int .i64 Me,.sl .sh (Ml.map encA),.int .i64 Me];let ζ7:List AV:=[.sl .sh (Pl.map encA),.int .i64 Pe,.sl .sh (Pl.map encA),.int .i64 Pe];let ζ8:List AV:=[.sl .sh (Al.map encA),.int .i64 Ae];let ζ9:List AV:=[.sl .sh (Bl.map encA),.int .i64 Be];let ζ10:List AV:=[.sl .sh (Ml.map encA),.int .i64 Me];let ζ11:List AV:=[.sl .sh (Pl.map encA),.int .i64 Pe];goG 400 [] trivial (.callI known12'<|.ff<|.callI f1<|.ff<|.callI f2<|.ff<|.callG ([.sl .sh (a.map encA)]) (.sl .sh (a.map encA)) (show Gives cfg (14:FuncId) [.sl .sh (a.map encA)] (rowS Heap.nil (a.map encA))from o1) ⟨rfl,rfl⟩ Res.p<|.callG ([.sl .sh (b.map encA)]) (.sl .sh (b.map encA)) (show Gives cfg (14:FuncId) [.sl .sh (b.map encA)] (rowS Heap.nil (b.map encA))from o2) ⟨rfl,rfl⟩ Res.p<|.callI k1<|.callI k2<|.ff<|.callK (ζ1) (.bool true) (show Gives cfg (17:FuncId) ζ1 (.bool true)from s1)<|.callK (ζ1) (.bool true) (show Gives cfg (18:FuncId) ζ1 (.bool true)from s2)<|.ff<|.callI t1<|.callI t2<|.no (show(!tx==tx)=false from by have hh:(tx==tx)=true:=(by simp+zetaDelta);simp[hh])<|.callK (ζ1) (.tuple ζ8) (show Gives cfg (21:FuncId) ζ1 (.tuple ζ8)from a1)<|.callG (ζ1) (.tuple ζ8) (show Gives cfg (22:FuncId) ζ1 (.tuple [.sl (kq c1) (Al.map encA),.int .i64 Ae])from a2) ⟨rfl,rfl⟩ Res.p<|.callK (ζ4) (.bool true) (show Gives cfg (23:FuncId) ζ4 (.bool true)from a3)<|.ff<|.callK (ζ1) (.tuple ζ9) (show Gives cfg (24:FuncId) ζ1 (.tuple ζ9)from b1)<|.callG (ζ1) (.tuple ζ9) (show Gives cfg (25:FuncId) ζ1 (.tuple [.sl (kq c2) (Bl.map encA),.int .i64 Be])from b2) ⟨rfl,rfl⟩ Res.p<|.callK (ζ5) (.bool true) (show Gives cfg (23:FuncId) ζ5 (.bool true)from b3)<|.ff<|.callK (ζ3) (.tuple ζ10) (show Gives cfg (26:FuncId) ζ3 (.tuple ζ10)from m1)<|.effY (show Does cfg (.call (.c (.func (27:FuncId) [])) [.c (.sl .sh (a.map encA)),.c (.int .i64 n)]) ζ2 (.tuple ζ10) ζ2 from m2 _)<|.callK (ζ6) (.bool true) (show Gives cfg (23:FuncId) ζ6 (.bool true)from m3)<|.ff<|.callK (ζ3) (.tuple ζ11) (show Gives cfg (28:FuncId) ζ3 (.tuple ζ11)from p1)<|.effY (show Does cfg (.call (.c (.func (29:FuncId) [])) [.c (.sl .sh (a.map encA)),.c (.int .i64 n)]) ζ2 (.tuple ζ11) ζ2 from p2 _)<|.callK (ζ7) (.bool true) (show Gives cfg (23:FuncId) ζ7 (.bool true)from p3)<|.ff<|.callI k2<|.ff<|.callI k3<|.yes (show(y !=(0:Int))=true from(by simpa using e2))<|.fin ((.ret (.bool true),ζ2)) rfl) (by kernel_rfl)
    ·exact let ζ1:List AV:=[.sl .sh (a.map encA),.sl .sh (b.map encA)];let ζ2:Heap:={boxes:=[],toks:=[],loops:=[]:Heap};let ζ3:List AV:=[.sl .sh (a.map encA),.int .i64 n];let ζ4:List AV:=[.sl .sh (Al.map encA),.int .i64 Ae,.sl .sh (Al.map encA),.int .i64 Ae];let ζ5:List AV:=[.sl .sh (Bl.map encA),.int .i64 Be,.sl .sh (Bl.map encA),.int .i64 Be];let ζ6:List AV:=[.sl .sh (Ml.map encA),.int .i64 Me,.sl .sh (Ml.map encA),.int .i64 Me];let ζ7:List AV:=[.sl .sh (Pl.map encA),.int .i64 Pe,.sl .sh (Pl.map encA),.int .i64 Pe];let ζ8:List AV:=[.sl .sh (Al.map encA),.int .i64 Ae];let ζ9:List AV:=[.sl .sh (Bl.map encA),.int .i64 Be];let ζ10:List AV:=[.sl .sh (Ml.map encA),.int .i64 Me];let ζ11:List AV:=[.sl .sh (Pl.map encA),.int .i64 Pe];goG 400 [] trivial (.callI known12'<|.ff<|.callI f1<|.ff<|.callI f2<|.ff<|.callG ([.sl .sh (a.map encA)]) (.sl .sh (a.map encA)) (show Gives cfg (14:FuncId) [.sl .sh (a.map encA)] (rowS Heap.nil (a.map encA))from o1) ⟨rfl,rfl⟩ Res.p<|.callG ([.sl .sh (b.map encA)]) (.sl .sh (b.map encA)) (show Gives cfg (14:FuncId) [.sl .sh (b.map encA)] (rowS Heap.nil (b.map encA))from o2) ⟨rfl,rfl⟩ Res.p<|.callI k1<|.callI k2<|.no (show(x !=x)=false from Bool.eq_false_iff.2 (by simp+zetaDelta))<|.callK (ζ1) (.bool true) (show Gives cfg (17:FuncId) ζ1 (.bool true)from s1)<|.callK (ζ1) (.bool true) (show Gives cfg (18:FuncId) ζ1 (.bool true)from s2)<|.ff<|.callI t1<|.callI t2<|.no (show(!tx==tx)=false from by have hh:(tx==tx)=true:=(by simp+zetaDelta);simp[hh])<|.callK (ζ1) (.tuple ζ8) (show Gives cfg (21:FuncId) ζ1 (.tuple ζ8)from a1)<|.callG (ζ1) (.tuple ζ8) (show Gives cfg (22:FuncId) ζ1 (.tuple [.sl (kq c1) (Al.map encA),.int .i64 Ae])from a2) ⟨rfl,rfl⟩ Res.p<|.callK (ζ4) (.bool true) (show Gives cfg (23:FuncId) ζ4 (.bool true)from a3)<|.ff<|.callK (ζ1) (.tuple ζ9) (show Gives cfg (24:FuncId) ζ1 (.tuple ζ9)from b1)<|.callG (ζ1) (.tuple ζ9) (show Gives cfg (25:FuncId) ζ1 (.tuple [.sl (kq c2) (Bl.map encA),.int .i64 Be])from b2) ⟨rfl,rfl⟩ Res.p<|.callK (ζ5) (.bool true) (show Gives cfg (23:FuncId) ζ5 (.bool true)from b3)<|.ff<|.callK (ζ3) (.tuple ζ10) (show Gives cfg (26:FuncId) ζ3 (.tuple ζ10)from m1)<|.effY (show Does cfg (.call (.c (.func (27:FuncId) [])) [.c (.sl .sh (a.map encA)),.c (.int .i64 n)]) ζ2 (.tuple ζ10) ζ2 from m2 _)<|.callK (ζ6) (.bool true) (show Gives cfg (23:FuncId) ζ6 (.bool true)from m3)<|.ff<|.callK (ζ3) (.tuple ζ11) (show Gives cfg (28:FuncId) ζ3 (.tuple ζ11)from p1)<|.effY (show Does cfg (.call (.c (.func (29:FuncId) [])) [.c (.sl .sh (a.map encA)),.c (.int .i64 n)]) ζ2 (.tuple ζ11) ζ2 from p2 _)<|.callK (ζ7) (.bool true) (show Gives cfg (23:FuncId) ζ7 (.bool true)from p3)<|.ff<|.callI k2<|.yes (show(x !=(0:Int))=true from(by simpa using e1))<|.tt<|.fin ((.ret (.bool true),ζ2)) rfl) (by kernel_rfl)
end Go.Aa.T
set_option linter.unusedVariables false
set_option linter.unusedSimpArgs false
set_option maxRecDepth 100000
namespace Go.Aa.T
open Go.Aa Go.Proofs
theorem map_of2{α:Type}{f:α→AV}{Q:AV→Prop}{S:α→Prop}(h:∀y,Q y→∃x,y=f x∧S x):∀(l:List AV),(∀y∈l,Q y)→∃t:List α,l=t.map f∧∀x∈t,S x
 |[],_=>⟨[],rfl,by simp⟩
 |y::l,hl=>by
  obtain⟨x,rfl,hx⟩:=h y (hl y (by simp))
  obtain⟨t,rfl,ht⟩:=map_of2 h l (fun z hz=>hl z (by simp[hz]))
  exact⟨x::t,rfl,by simpa using⟨hx,ht⟩⟩
theorem i64_range{m:Int}(h:(Lit.int .i64 m).wf=true): -9223372036854775808≤m∧m≤9223372036854775807:=by
 have h':IntKind.i64.min≤m∧m≤IntKind.i64.max:=by simpa[Lit.wf,IntKind.has]using h
 have e1:IntKind.i64.min= -9223372036854775808:=rfl
 have e2:IntKind.i64.max=9223372036854775807:=rfl
 omega
theorem tys2{R:TypeId→List AV→Prop}{f1 f2:Field}{cs:List AV}(h:Tys R (#[f1,f2]:Array Field).toList cs):∃a1 a2,cs=a1++(a2)∧R f1.type a1∧R f2.type a2:=by
 obtain⟨a1,b1,rfl,h1,a2,b2,rfl,h2,e⟩:=(show Tys R [f1,f2] cs from h)
 cases e
 exact⟨a1,a2,by simp,h1,h2⟩
theorem ty81{k:Nat}{y:AV}(h:TyV Tryz.prog (k+2) 81 y):∃x:Amount,y=encA x∧(-9223372036854775808≤x.n∧x.n≤9223372036854775807):=by
 obtain⟨cs,rfl,hh⟩:=tyv_struct Tryz.underlying81 h
 obtain⟨a1,a2,rfl,h1,h2⟩:=tys2 hh
 obtain⟨s1,rfl,-⟩:=ty_string Tryz.underlying9 h1
 obtain⟨s2,rfl,w2⟩:=ty_int Tryz.underlying2 h2
 have r2:=i64_range w2
 exact⟨⟨s1,s2⟩,rfl,r2⟩
theorem ty23{k:Nat}{y:AV}(h:TyV Tryz.prog (k+3) 23 y):∃t:List Amount,y=.sl .sh (t.map encA)∧∀x∈t,-9223372036854775808≤x.n∧x.n≤9223372036854775807:=by
 obtain⟨l,rfl,-,hl⟩:=tyv_slice Tryz.underlying23 h
 obtain⟨t,rfl,hs⟩:=map_of2 (S:=fun x:Amount=> -9223372036854775808≤x.n∧x.n≤9223372036854775807) (fun y hy=>ty81 hy) l hl
 exact⟨t,rfl,hs⟩
end Go.Aa.T
set_option linter.unusedVariables false
set_option linter.unusedSimpArgs false
set_option maxRecDepth 100000
namespace Go.Aa.T
open Go.Aa Go.Proofs
theorem law3(xs:List AV)(h:TyAll Tryz.prog 5 [23,23,2] xs)(hz:SzAll Tryz.prog [23,23,2] xs):∃H',lim cfg (.fn 3) xs Heap.nil=some (.ret (.bool true),H'):=by
 obtain⟨x1,x2,x3,rfl,h1,h2,h3⟩:=tyall_3 h
 obtain⟨a,rfl,ra⟩:=ty23 (k:=2) h1
 obtain⟨b,rfl,rb⟩:=ty23 (k:=2) h2
 obtain⟨n,rfl,wn⟩:=tyv_int (k:=4) Tryz.underlying2 h3
 have rn:=i64_range wn
 exact(resTwo a b n ra rb (by unfold inI;omega)).ret
end Go.Aa.T
namespace Go.Proofs
open Go.Shelf
def Tryz.lays160_ren:Go.Shelf.Ren:=⟨fun|160=>83|232=>110|231=>109|227=>111|234=>113|233=>112|236=>115|235=>114|228=>134|271=>136|151=>135|197=>129|120=>160|152=>159|260=>149|137=>181|119=>182|224=>152|225=>151|217=>150|266=>175|n=>n,fun|9=>9|4=>4|3=>3|5=>5|117=>152|116=>151|0=>0|124=>155|21=>21|105=>167|46=>165|119=>203|139=>206|138=>205|n=>n,fun|3=>4|4=>5|n=>n⟩
theorem Tryz.lays160:Go.Proofs.Lays.n160 Tryz.prog Tryz.lays160_ren:={
 mixed:=by kernel_rfl
 f119:=Tryz.func182.trans (congrArg some (by kernel_rfl))
 f120:=Tryz.func160.trans (congrArg some (by kernel_rfl))
 f137:=Tryz.func181.trans (congrArg some (by kernel_rfl))
 f151:=Tryz.func135.trans (congrArg some (by kernel_rfl))
 f152:=Tryz.func159.trans (congrArg some (by kernel_rfl))
 f160:=Tryz.func83.trans (congrArg some (by kernel_rfl))
 f197:=Tryz.func129.trans (congrArg some (by kernel_rfl))
 f217:=Tryz.func150.trans (congrArg some (by kernel_rfl))
 f224:=Tryz.func152.trans (congrArg some (by kernel_rfl))
 f225:=Tryz.func151.trans (congrArg some (by kernel_rfl))
 f227:=Tryz.func111.trans (congrArg some (by kernel_rfl))
 f228:=Tryz.func134.trans (congrArg some (by kernel_rfl))
 f231:=Tryz.func109.trans (congrArg some (by kernel_rfl))
 f232:=Tryz.func110.trans (congrArg some (by kernel_rfl))
 f233:=Tryz.func112.trans (congrArg some (by kernel_rfl))
 f234:=Tryz.func113.trans (congrArg some (by kernel_rfl))
 f235:=Tryz.func114.trans (congrArg some (by kernel_rfl))
 f236:=Tryz.func115.trans (congrArg some (by kernel_rfl))
 f260:=Tryz.func149.trans (congrArg some (by kernel_rfl))
 f266:=Tryz.func175.trans (congrArg some (by kernel_rfl))
 f271:=Tryz.func136.trans (congrArg some (by kernel_rfl))
 t0:=Tryz.underlying0
 a0:=Tryz.isAgg0
 z0:=Tryz.sizeOf0
 v0:=Tryz.zeroValue0
 t3:=Tryz.underlying3
 a3:=Tryz.isAgg3
 z3:=Tryz.sizeOf3
 v3:=Tryz.zeroValue3
 t4:=Tryz.underlying4
 a4:=Tryz.isAgg4
 z4:=Tryz.sizeOf4
 v4:=Tryz.zeroValue4
 t5:=Tryz.underlying5
 a5:=Tryz.isAgg5
 z5:=Tryz.sizeOf5
 v5:=Tryz.zeroValue5
 t9:=Tryz.underlying9
 a9:=Tryz.isAgg9
 z9:=Tryz.sizeOf9
 v9:=Tryz.zeroValue9
 t21:=Tryz.underlying21
 a21:=Tryz.isAgg21
 z21:=Tryz.sizeOf21
 v21:=Tryz.zeroValue21
 t46:=Tryz.underlying165
 a46:=Tryz.isAgg165
 z46:=Tryz.sizeOf165
 v46:=Tryz.zeroValue165
 t105:=Tryz.underlying167
 a105:=Tryz.isAgg167
 z105:=Tryz.sizeOf167
 v105:=Tryz.zeroValue167
 t116:=Tryz.underlying151
 a116:=Tryz.isAgg151
 z116:=Tryz.sizeOf151
 t117:=Tryz.underlying152
 a117:=Tryz.isAgg152
 z117:=Tryz.sizeOf152
 v117:=Tryz.zeroValue152
 t119:=Tryz.underlying203
 a119:=Tryz.isAgg203
 z119:=Tryz.sizeOf203
 t124:=Tryz.underlying155
 a124:=Tryz.isAgg155
 z124:=Tryz.sizeOf155
 v124:=Tryz.zeroValue155
 t138:=Tryz.underlying205
 a138:=Tryz.isAgg205
 z138:=Tryz.sizeOf205
 v138:=Tryz.zeroValue205
 t139:=Tryz.underlying206
 a139:=Tryz.isAgg206
 z139:=Tryz.sizeOf206
 v139:=Tryz.zeroValue206
 g3:=by kernel_rfl
 g4:=by kernel_rfl}
def Tryz.lays156_ren:Go.Shelf.Ren:=⟨fun|156=>54|165=>95|166=>96|169=>97|240=>122|241=>123|276=>144|277=>145|n=>n,fun|31=>88|9=>9|3=>3|4=>4|0=>0|20=>20|72=>127|76=>131|70=>125|37=>83|75=>130|127=>162|164=>180|5=>5|80=>133|n=>n,fun|n=>n⟩
theorem Tryz.lays156:Go.Proofs.Lays.n156 Tryz.prog Tryz.lays156_ren:={
 mixed:=by kernel_rfl
 f156:=Tryz.func54.trans (congrArg some (by kernel_rfl))
 f165:=Tryz.func95.trans (congrArg some (by kernel_rfl))
 f166:=Tryz.func96.trans (congrArg some (by kernel_rfl))
 f169:=Tryz.func97.trans (congrArg some (by kernel_rfl))
 f240:=Tryz.func122.trans (congrArg some (by kernel_rfl))
 f241:=Tryz.func123.trans (congrArg some (by kernel_rfl))
 f276:=Tryz.func144.trans (congrArg some (by kernel_rfl))
 f277:=Tryz.func145.trans (congrArg some (by kernel_rfl))
 t0:=Tryz.underlying0
 a0:=Tryz.isAgg0
 z0:=Tryz.sizeOf0
 v0:=Tryz.zeroValue0
 t3:=Tryz.underlying3
 a3:=Tryz.isAgg3
 z3:=Tryz.sizeOf3
 v3:=Tryz.zeroValue3
 t4:=Tryz.underlying4
 a4:=Tryz.isAgg4
 z4:=Tryz.sizeOf4
 v4:=Tryz.zeroValue4
 t9:=Tryz.underlying9
 a9:=Tryz.isAgg9
 z9:=Tryz.sizeOf9
 v9:=Tryz.zeroValue9
 t20:=Tryz.underlying20
 a20:=Tryz.isAgg20
 z20:=Tryz.sizeOf20
 v20:=Tryz.zeroValue20
 t31:=Tryz.underlying88
 a31:=Tryz.isAgg88
 z31:=Tryz.sizeOf88
 v31:=Tryz.zeroValue88
 t37:=Tryz.underlying83
 a37:=Tryz.isAgg83
 z37:=Tryz.sizeOf83
 v37:=Tryz.zeroValue83
 t70:=Tryz.underlying125
 a70:=Tryz.isAgg125
 z70:=Tryz.sizeOf125
 v70:=Tryz.zeroValue125
 t72:=Tryz.underlying127
 a72:=Tryz.isAgg127
 z72:=Tryz.sizeOf127
 v72:=Tryz.zeroValue127
 t75:=Tryz.underlying130
 a75:=Tryz.isAgg130
 z75:=Tryz.sizeOf130
 v75:=Tryz.zeroValue130
 t76:=Tryz.underlying131
 a76:=Tryz.isAgg131
 z76:=Tryz.sizeOf131
 v76:=Tryz.zeroValue131
 t127:=Tryz.underlying162
 a127:=Tryz.isAgg162
 z127:=Tryz.sizeOf162
 v127:=Tryz.zeroValue162
 t164:=Tryz.underlying180
 a164:=Tryz.isAgg180
 z164:=Tryz.sizeOf180
 v164:=Tryz.zeroValue180}
theorem Tryz.Builder_Extra_156:Builder.Extra Tryz.prog Tryz.lays156_ren:={
 sizeBuilder:=by kernel_rfl
 liesBuilder:=by kernel_rfl
 t5:=Tryz.underlying5
 a5:=Tryz.isAgg5
 z5:=Tryz.sizeOf5
 v5:=Tryz.zeroValue5
 infoByte:=by kernel_rfl
 cellsByte:=by kernel_rfl
 sizeByte:=by kernel_rfl
 neB5:=by decide}
def Tryz.lays143_ren:Go.Shelf.Ren:=⟨fun|143=>130|219=>131|217=>150|225=>151|224=>152|267=>153|266=>175|314=>176|n=>n,fun|9=>9|3=>3|4=>4|5=>5|46=>165|146=>207|51=>79|n=>n,fun|1=>3|n=>n⟩
theorem Tryz.lays143:Go.Proofs.Lays.n143 Tryz.prog Tryz.lays143_ren:={
 mixed:=by kernel_rfl
 f143:=Tryz.func130.trans (congrArg some (by kernel_rfl))
 f217:=Tryz.func150.trans (congrArg some (by kernel_rfl))
 f219:=Tryz.func131.trans (congrArg some (by kernel_rfl))
 f224:=Tryz.func152.trans (congrArg some (by kernel_rfl))
 f225:=Tryz.func151.trans (congrArg some (by kernel_rfl))
 f266:=Tryz.func175.trans (congrArg some (by kernel_rfl))
 f267:=Tryz.func153.trans (congrArg some (by kernel_rfl))
 f314:=Tryz.func176.trans (congrArg some (by kernel_rfl))
 t3:=Tryz.underlying3
 a3:=Tryz.isAgg3
 z3:=Tryz.sizeOf3
 v3:=Tryz.zeroValue3
 t4:=Tryz.underlying4
 a4:=Tryz.isAgg4
 z4:=Tryz.sizeOf4
 v4:=Tryz.zeroValue4
 t5:=Tryz.underlying5
 a5:=Tryz.isAgg5
 z5:=Tryz.sizeOf5
 v5:=Tryz.zeroValue5
 t9:=Tryz.underlying9
 a9:=Tryz.isAgg9
 z9:=Tryz.sizeOf9
 v9:=Tryz.zeroValue9
 t46:=Tryz.underlying165
 a46:=Tryz.isAgg165
 z46:=Tryz.sizeOf165
 v46:=Tryz.zeroValue165
 t51:=Tryz.underlying79
 a51:=Tryz.isAgg79
 z51:=Tryz.sizeOf79
 v51:=Tryz.zeroValue79
 t146:=Tryz.underlying207
 a146:=Tryz.isAgg207
 z146:=Tryz.sizeOf207
 v146:=Tryz.zeroValue207
 g1:=by kernel_rfl}
def Tryz.lays219_ren:Go.Shelf.Ren:=⟨fun|219=>131|217=>150|225=>151|224=>152|267=>153|266=>175|314=>176|n=>n,fun|9=>9|3=>3|4=>4|5=>5|46=>165|146=>207|51=>79|n=>n,fun|1=>3|n=>n⟩
theorem Tryz.lays219:Go.Proofs.Lays.n219 Tryz.prog Tryz.lays219_ren:={
 mixed:=by kernel_rfl
 f217:=Tryz.func150.trans (congrArg some (by kernel_rfl))
 f219:=Tryz.func131.trans (congrArg some (by kernel_rfl))
 f224:=Tryz.func152.trans (congrArg some (by kernel_rfl))
 f225:=Tryz.func151.trans (congrArg some (by kernel_rfl))
 f266:=Tryz.func175.trans (congrArg some (by kernel_rfl))
 f267:=Tryz.func153.trans (congrArg some (by kernel_rfl))
 f314:=Tryz.func176.trans (congrArg some (by kernel_rfl))
 t3:=Tryz.underlying3
 a3:=Tryz.isAgg3
 z3:=Tryz.sizeOf3
 v3:=Tryz.zeroValue3
 t4:=Tryz.underlying4
 a4:=Tryz.isAgg4
 z4:=Tryz.sizeOf4
 v4:=Tryz.zeroValue4
 t5:=Tryz.underlying5
 a5:=Tryz.isAgg5
 z5:=Tryz.sizeOf5
 v5:=Tryz.zeroValue5
 t9:=Tryz.underlying9
 a9:=Tryz.isAgg9
 z9:=Tryz.sizeOf9
 v9:=Tryz.zeroValue9
 t46:=Tryz.underlying165
 a46:=Tryz.isAgg165
 z46:=Tryz.sizeOf165
 v46:=Tryz.zeroValue165
 t51:=Tryz.underlying79
 a51:=Tryz.isAgg79
 z51:=Tryz.sizeOf79
 v51:=Tryz.zeroValue79
 t146:=Tryz.underlying207
 a146:=Tryz.isAgg207
 z146:=Tryz.sizeOf207
 v146:=Tryz.zeroValue207
 g1:=by kernel_rfl}
def Tryz.laysM173_ren:Go.Shelf.Ren:=⟨fun|173=>53|246=>94|283=>118|284=>119|285=>120|286=>121|129=>140|317=>139|318=>141|319=>142|320=>143|337=>163|338=>164|n=>n,fun|2=>2|3=>3|9=>9|4=>4|171=>157|0=>0|53=>138|37=>83|5=>5|173=>160|212=>176|51=>79|20=>20|213=>177|46=>165|232=>215|233=>216|n=>n,fun|17=>0|18=>8|19=>9|n=>n⟩
theorem Tryz.laysM173:Go.Proofs.LaysM.n173 Tryz.prog Tryz.laysM173_ren:={
 mixed:=by kernel_rfl
 f129:=Tryz.func140.trans (congrArg some (by kernel_rfl))
 f173:=Tryz.func53.trans (congrArg some (by kernel_rfl))
 f246:=Tryz.func94.trans (congrArg some (by kernel_rfl))
 f283:=Tryz.func118.trans (congrArg some (by kernel_rfl))
 f284:=Tryz.func119.trans (congrArg some (by kernel_rfl))
 f285:=Tryz.func120.trans (congrArg some (by kernel_rfl))
 f286:=Tryz.func121.trans (congrArg some (by kernel_rfl))
 f317:=Tryz.func139.trans (congrArg some (by kernel_rfl))
 f318:=Tryz.func141.trans (congrArg some (by kernel_rfl))
 f319:=Tryz.func142.trans (congrArg some (by kernel_rfl))
 f320:=Tryz.func143.trans (congrArg some (by kernel_rfl))
 f337:=Tryz.func163.trans (congrArg some (by kernel_rfl))
 f338:=Tryz.func164.trans (congrArg some (by kernel_rfl))
 t0:=Tryz.underlying0
 a0:=Tryz.isAgg0
 z0:=Tryz.sizeOf0
 v0:=Tryz.zeroValue0
 t2:=Tryz.underlying2
 a2:=Tryz.isAgg2
 z2:=Tryz.sizeOf2
 v2:=Tryz.zeroValue2
 t3:=Tryz.underlying3
 a3:=Tryz.isAgg3
 z3:=Tryz.sizeOf3
 v3:=Tryz.zeroValue3
 t4:=Tryz.underlying4
 a4:=Tryz.isAgg4
 z4:=Tryz.sizeOf4
 v4:=Tryz.zeroValue4
 t5:=Tryz.underlying5
 a5:=Tryz.isAgg5
 z5:=Tryz.sizeOf5
 v5:=Tryz.zeroValue5
 t9:=Tryz.underlying9
 a9:=Tryz.isAgg9
 z9:=Tryz.sizeOf9
 v9:=Tryz.zeroValue9
 t20:=Tryz.underlying20
 a20:=Tryz.isAgg20
 z20:=Tryz.sizeOf20
 v20:=Tryz.zeroValue20
 t37:=Tryz.underlying83
 a37:=Tryz.isAgg83
 z37:=Tryz.sizeOf83
 v37:=Tryz.zeroValue83
 t46:=Tryz.underlying165
 a46:=Tryz.isAgg165
 z46:=Tryz.sizeOf165
 v46:=Tryz.zeroValue165
 t51:=Tryz.underlying79
 a51:=Tryz.isAgg79
 z51:=Tryz.sizeOf79
 v51:=Tryz.zeroValue79
 t53:=Tryz.underlying138
 a53:=Tryz.isAgg138
 z53:=Tryz.sizeOf138
 v53:=Tryz.zeroValue138
 t171:=Tryz.underlying157
 a171:=Tryz.isAgg157
 z171:=Tryz.sizeOf157
 v171:=Tryz.zeroValue157
 t173:=Tryz.underlying160
 a173:=Tryz.isAgg160
 z173:=Tryz.sizeOf160
 v173:=Tryz.zeroValue160
 t212:=Tryz.underlying176
 a212:=Tryz.isAgg176
 z212:=Tryz.sizeOf176
 v212:=Tryz.zeroValue176
 t213:=Tryz.underlying177
 a213:=Tryz.isAgg177
 z213:=Tryz.sizeOf177
 t232:=Tryz.underlying215
 a232:=Tryz.isAgg215
 z232:=Tryz.sizeOf215
 v232:=Tryz.zeroValue215
 t233:=Tryz.underlying216
 a233:=Tryz.isAgg216
 z233:=Tryz.sizeOf216
 v233:=Tryz.zeroValue216
 g17:=by kernel_rfl
 g18:=by kernel_rfl
 g19:=by kernel_rfl
 i0:=by kernel_rfl
 i2:=by kernel_rfl
 i3:=by kernel_rfl
 i4:=by kernel_rfl
 i5:=by kernel_rfl
 i9:=by kernel_rfl
 i20:=by kernel_rfl
 i37:=by kernel_rfl
 i46:=by kernel_rfl
 i51:=by kernel_rfl
 i53:=by kernel_rfl
 i171:=by kernel_rfl
 i173:=by kernel_rfl
 i212:=by kernel_rfl
 i232:=by kernel_rfl
 i233:=by kernel_rfl
 m17:=by kernel_rfl
 m18:=by kernel_rfl
 m19:=by kernel_rfl}
def Tryz.laysC174_ren:Go.Shelf.Ren:=⟨fun|174=>108|247=>132|245=>133|287=>154|279=>155|280=>156|281=>157|282=>158|321=>177|322=>178|316=>179|171=>89|205=>180|243=>116|246=>94|283=>118|284=>119|285=>120|286=>121|129=>140|317=>139|318=>141|319=>142|320=>143|337=>163|338=>164|n=>n,fun|9=>9|3=>3|2=>2|75=>130|85=>147|4=>4|167=>185|5=>5|53=>138|175=>186|46=>165|168=>188|37=>83|0=>0|210=>212|21=>21|127=>162|145=>225|143=>223|171=>157|173=>160|212=>176|51=>79|20=>20|213=>177|232=>215|233=>216|80=>133|n=>n,fun|15=>6|16=>7|17=>0|18=>8|19=>9|n=>n⟩
theorem Tryz.laysC174:Go.Proofs.LaysC.n174 Tryz.prog Tryz.laysC174_ren:={
 mixed:=by kernel_rfl
 f129:=Tryz.func140.trans (congrArg some (by kernel_rfl))
 f171:=Tryz.func89.trans (congrArg some (by kernel_rfl))
 f174:=Tryz.func108.trans (congrArg some (by kernel_rfl))
 f205:=Tryz.func180.trans (congrArg some (by kernel_rfl))
 f243:=Tryz.func116.trans (congrArg some (by kernel_rfl))
 f245:=Tryz.func133.trans (congrArg some (by kernel_rfl))
 f246:=Tryz.func94.trans (congrArg some (by kernel_rfl))
 f247:=Tryz.func132.trans (congrArg some (by kernel_rfl))
 f279:=Tryz.func155.trans (congrArg some (by kernel_rfl))
 f280:=Tryz.func156.trans (congrArg some (by kernel_rfl))
 f281:=Tryz.func157.trans (congrArg some (by kernel_rfl))
 f282:=Tryz.func158.trans (congrArg some (by kernel_rfl))
 f283:=Tryz.func118.trans (congrArg some (by kernel_rfl))
 f284:=Tryz.func119.trans (congrArg some (by kernel_rfl))
 f285:=Tryz.func120.trans (congrArg some (by kernel_rfl))
 f286:=Tryz.func121.trans (congrArg some (by kernel_rfl))
 f287:=Tryz.func154.trans (congrArg some (by kernel_rfl))
 f316:=Tryz.func179.trans (congrArg some (by kernel_rfl))
 f317:=Tryz.func139.trans (congrArg some (by kernel_rfl))
 f318:=Tryz.func141.trans (congrArg some (by kernel_rfl))
 f319:=Tryz.func142.trans (congrArg some (by kernel_rfl))
 f320:=Tryz.func143.trans (congrArg some (by kernel_rfl))
 f321:=Tryz.func177.trans (congrArg some (by kernel_rfl))
 f322:=Tryz.func178.trans (congrArg some (by kernel_rfl))
 f337:=Tryz.func163.trans (congrArg some (by kernel_rfl))
 f338:=Tryz.func164.trans (congrArg some (by kernel_rfl))
 t0:=Tryz.underlying0
 a0:=Tryz.isAgg0
 z0:=Tryz.sizeOf0
 v0:=Tryz.zeroValue0
 t2:=Tryz.underlying2
 a2:=Tryz.isAgg2
 z2:=Tryz.sizeOf2
 v2:=Tryz.zeroValue2
 t3:=Tryz.underlying3
 a3:=Tryz.isAgg3
 z3:=Tryz.sizeOf3
 v3:=Tryz.zeroValue3
 t4:=Tryz.underlying4
 a4:=Tryz.isAgg4
 z4:=Tryz.sizeOf4
 v4:=Tryz.zeroValue4
 t5:=Tryz.underlying5
 a5:=Tryz.isAgg5
 z5:=Tryz.sizeOf5
 v5:=Tryz.zeroValue5
 t9:=Tryz.underlying9
 a9:=Tryz.isAgg9
 z9:=Tryz.sizeOf9
 v9:=Tryz.zeroValue9
 t20:=Tryz.underlying20
 a20:=Tryz.isAgg20
 z20:=Tryz.sizeOf20
 v20:=Tryz.zeroValue20
 t21:=Tryz.underlying21
 a21:=Tryz.isAgg21
 z21:=Tryz.sizeOf21
 v21:=Tryz.zeroValue21
 t37:=Tryz.underlying83
 a37:=Tryz.isAgg83
 z37:=Tryz.sizeOf83
 v37:=Tryz.zeroValue83
 t46:=Tryz.underlying165
 a46:=Tryz.isAgg165
 z46:=Tryz.sizeOf165
 v46:=Tryz.zeroValue165
 t51:=Tryz.underlying79
 a51:=Tryz.isAgg79
 z51:=Tryz.sizeOf79
 v51:=Tryz.zeroValue79
 t53:=Tryz.underlying138
 a53:=Tryz.isAgg138
 z53:=Tryz.sizeOf138
 v53:=Tryz.zeroValue138
 t75:=Tryz.underlying130
 a75:=Tryz.isAgg130
 z75:=Tryz.sizeOf130
 v75:=Tryz.zeroValue130
 t85:=Tryz.underlying147
 a85:=Tryz.isAgg147
 z85:=Tryz.sizeOf147
 v85:=Tryz.zeroValue147
 t127:=Tryz.underlying162
 a127:=Tryz.isAgg162
 z127:=Tryz.sizeOf162
 v127:=Tryz.zeroValue162
 t143:=Tryz.underlying223
 a143:=Tryz.isAgg223
 z143:=Tryz.sizeOf223
 v143:=Tryz.zeroValue223
 t145:=Tryz.underlying225
 a145:=Tryz.isAgg225
 z145:=Tryz.sizeOf225
 v145:=Tryz.zeroValue225
 t167:=Tryz.underlying185
 a167:=Tryz.isAgg185
 z167:=Tryz.sizeOf185
 v167:=Tryz.zeroValue185
 t168:=Tryz.underlying188
 a168:=Tryz.isAgg188
 z168:=Tryz.sizeOf188
 v168:=Tryz.zeroValue188
 t171:=Tryz.underlying157
 a171:=Tryz.isAgg157
 z171:=Tryz.sizeOf157
 v171:=Tryz.zeroValue157
 t173:=Tryz.underlying160
 a173:=Tryz.isAgg160
 z173:=Tryz.sizeOf160
 v173:=Tryz.zeroValue160
 t175:=Tryz.underlying186
 a175:=Tryz.isAgg186
 z175:=Tryz.sizeOf186
 v175:=Tryz.zeroValue186
 t210:=Tryz.underlying212
 a210:=Tryz.isAgg212
 z210:=Tryz.sizeOf212
 v210:=Tryz.zeroValue212
 t212:=Tryz.underlying176
 a212:=Tryz.isAgg176
 z212:=Tryz.sizeOf176
 v212:=Tryz.zeroValue176
 t213:=Tryz.underlying177
 a213:=Tryz.isAgg177
 z213:=Tryz.sizeOf177
 t232:=Tryz.underlying215
 a232:=Tryz.isAgg215
 z232:=Tryz.sizeOf215
 v232:=Tryz.zeroValue215
 t233:=Tryz.underlying216
 a233:=Tryz.isAgg216
 z233:=Tryz.sizeOf216
 v233:=Tryz.zeroValue216
 g15:=by kernel_rfl
 g16:=by kernel_rfl
 g17:=by kernel_rfl
 g18:=by kernel_rfl
 g19:=by kernel_rfl
 t80:=Tryz.underlying133
 a80:=Tryz.isAgg133
 z80:=Tryz.sizeOf133
 v80:=Tryz.zeroValue133
 i0:=by kernel_rfl
 i2:=by kernel_rfl
 i3:=by kernel_rfl
 i4:=by kernel_rfl
 i5:=by kernel_rfl
 i9:=by kernel_rfl
 i20:=by kernel_rfl
 i21:=by kernel_rfl
 i37:=by kernel_rfl
 i46:=by kernel_rfl
 i51:=by kernel_rfl
 i53:=by kernel_rfl
 i75:=by kernel_rfl
 i80:=by kernel_rfl
 i85:=by kernel_rfl
 i127:=by kernel_rfl
 i143:=by kernel_rfl
 i145:=by kernel_rfl
 i167:=by kernel_rfl
 i168:=by kernel_rfl
 i171:=by kernel_rfl
 i173:=by kernel_rfl
 i175:=by kernel_rfl
 i210:=by kernel_rfl
 i212:=by kernel_rfl
 i232:=by kernel_rfl
 i233:=by kernel_rfl
 m15:=by kernel_rfl
 m16:=by kernel_rfl
 m17:=by kernel_rfl
 m18:=by kernel_rfl
 m19:=by kernel_rfl
 c0:=by kernel_rfl
 c2:=by kernel_rfl
 c3:=by kernel_rfl
 c4:=by kernel_rfl
 c5:=by kernel_rfl
 c9:=by kernel_rfl
 c20:=by kernel_rfl
 c21:=by kernel_rfl
 c37:=by kernel_rfl
 c46:=by kernel_rfl
 c51:=by kernel_rfl
 c53:=by kernel_rfl
 c75:=by kernel_rfl
 c80:=by kernel_rfl
 c85:=by kernel_rfl
 c127:=by kernel_rfl
 c143:=by kernel_rfl
 c145:=by kernel_rfl
 c167:=by kernel_rfl
 c168:=by kernel_rfl
 c171:=by kernel_rfl
 c173:=by kernel_rfl
 c175:=by kernel_rfl
 c210:=by kernel_rfl
 c212:=by kernel_rfl
 c213:=by kernel_rfl
 c232:=by kernel_rfl
 c233:=by kernel_rfl}
def Tryz.lays190_ren:Go.Shelf.Ren:=⟨fun|190=>124|125=>147|258=>146|128=>174|129=>140|302=>165|303=>166|304=>167|305=>168|306=>169|307=>170|308=>171|309=>172|310=>173|333=>183|329=>184|330=>185|334=>186|335=>187|336=>188|344=>189|n=>n,fun|31=>88|9=>9|3=>3|46=>165|0=>0|51=>79|53=>138|4=>4|183=>196|182=>195|131=>201|5=>5|218=>217|222=>221|228=>226|229=>227|n=>n,fun|n=>n⟩
theorem Tryz.lays190:Go.Proofs.Lays.n190 Tryz.prog Tryz.lays190_ren:={
 mixed:=by kernel_rfl
 f125:=Tryz.func147.trans (congrArg some (by kernel_rfl))
 f128:=Tryz.func174.trans (congrArg some (by kernel_rfl))
 f129:=Tryz.func140.trans (congrArg some (by kernel_rfl))
 f190:=Tryz.func124.trans (congrArg some (by kernel_rfl))
 f258:=Tryz.func146.trans (congrArg some (by kernel_rfl))
 f302:=Tryz.func165.trans (congrArg some (by kernel_rfl))
 f303:=Tryz.func166.trans (congrArg some (by kernel_rfl))
 f304:=Tryz.func167.trans (congrArg some (by kernel_rfl))
 f305:=Tryz.func168.trans (congrArg some (by kernel_rfl))
 f306:=Tryz.func169.trans (congrArg some (by kernel_rfl))
 f307:=Tryz.func170.trans (congrArg some (by kernel_rfl))
 f308:=Tryz.func171.trans (congrArg some (by kernel_rfl))
 f309:=Tryz.func172.trans (congrArg some (by kernel_rfl))
 f310:=Tryz.func173.trans (congrArg some (by kernel_rfl))
 f329:=Tryz.func184.trans (congrArg some (by kernel_rfl))
 f330:=Tryz.func185.trans (congrArg some (by kernel_rfl))
 f333:=Tryz.func183.trans (congrArg some (by kernel_rfl))
 f334:=Tryz.func186.trans (congrArg some (by kernel_rfl))
 f335:=Tryz.func187.trans (congrArg some (by kernel_rfl))
 f336:=Tryz.func188.trans (congrArg some (by kernel_rfl))
 f344:=Tryz.func189.trans (congrArg some (by kernel_rfl))
 t0:=Tryz.underlying0
 a0:=Tryz.isAgg0
 z0:=Tryz.sizeOf0
 v0:=Tryz.zeroValue0
 t3:=Tryz.underlying3
 a3:=Tryz.isAgg3
 z3:=Tryz.sizeOf3
 v3:=Tryz.zeroValue3
 t4:=Tryz.underlying4
 a4:=Tryz.isAgg4
 z4:=Tryz.sizeOf4
 v4:=Tryz.zeroValue4
 t5:=Tryz.underlying5
 a5:=Tryz.isAgg5
 z5:=Tryz.sizeOf5
 v5:=Tryz.zeroValue5
 t9:=Tryz.underlying9
 a9:=Tryz.isAgg9
 z9:=Tryz.sizeOf9
 v9:=Tryz.zeroValue9
 t31:=Tryz.underlying88
 a31:=Tryz.isAgg88
 z31:=Tryz.sizeOf88
 v31:=Tryz.zeroValue88
 t46:=Tryz.underlying165
 a46:=Tryz.isAgg165
 z46:=Tryz.sizeOf165
 v46:=Tryz.zeroValue165
 t51:=Tryz.underlying79
 a51:=Tryz.isAgg79
 z51:=Tryz.sizeOf79
 v51:=Tryz.zeroValue79
 t53:=Tryz.underlying138
 a53:=Tryz.isAgg138
 z53:=Tryz.sizeOf138
 v53:=Tryz.zeroValue138
 t131:=Tryz.underlying201
 a131:=Tryz.isAgg201
 z131:=Tryz.sizeOf201
 v131:=Tryz.zeroValue201
 t182:=Tryz.underlying195
 a182:=Tryz.isAgg195
 z182:=Tryz.sizeOf195
 v182:=Tryz.zeroValue195
 t183:=Tryz.underlying196
 a183:=Tryz.isAgg196
 z183:=Tryz.sizeOf196
 v183:=Tryz.zeroValue196
 t218:=Tryz.underlying217
 a218:=Tryz.isAgg217
 z218:=Tryz.sizeOf217
 v218:=Tryz.zeroValue217
 t222:=Tryz.underlying221
 a222:=Tryz.isAgg221
 z222:=Tryz.sizeOf221
 v222:=Tryz.zeroValue221
 t228:=Tryz.underlying226
 a228:=Tryz.isAgg226
 z228:=Tryz.sizeOf226
 v228:=Tryz.zeroValue226
 t229:=Tryz.underlying227
 a229:=Tryz.isAgg227
 z229:=Tryz.sizeOf227
 v229:=Tryz.zeroValue227}
def Tryz.lays725_ren:Go.Shelf.Ren:=⟨fun|25=>126|n=>n,fun|22=>138|n=>n,fun|n=>n⟩
theorem Tryz.lays725:Go.Proofs.Lays7.n25 Tryz.prog Tryz.lays725_ren:={
 mixed:=by kernel_rfl
 f25:=Tryz.func126.trans (congrArg some (by kernel_rfl))
 t22:=Tryz.underlying138
 a22:=Tryz.isAgg138
 z22:=Tryz.sizeOf138
 v22:=Tryz.zeroValue138
 i22:=by kernel_rfl}
end Go.Proofs
set_option linter.unusedVariables false
set_option linter.unusedSimpArgs false
set_option maxRecDepth 100000
namespace Go.Aa.T
open Go.Aa Go.Proofs Go.RowKit Go.Shelf
theorem cfgOk:CfgOk Tryz.prog cfg:=by
 refine⟨by kernel_rfl,fun f A h=>tab_fn h,fun f g h=> ?_,fun f h=> ?_⟩
 ·have h:extF f=some g:=h
  unfold extF at h
  split at h<;>simp only[Option.some.injEq,reduceCtorEq]at h<;>subst h
  ·exact ext_trim (fun _ _=>by kernel_rfl) fun s c w h1 h2 h3=>Any.strings_Trim_laid Tryz.lays160 (by kernel_rfl) s c w h1 h2 h3
  ·exact ext_join (fun _ _=>by kernel_rfl) (fun a c sep w=>Any.strings_Join_none Tryz.lays156 Tryz.Builder_Extra_156 a c sep w) fun bk o c xs sep w h1 h2 h3 h4 h5=>Any.strings_Join Tryz.lays156 Tryz.Builder_Extra_156 bk o c xs sep w h1 h2 h3 h4 h5
  ·exact ext_index (fun _ _=>by kernel_rfl) fun s c w=>Any.strings_Index_one Tryz.lays143 s c w
  ·exact ext_index (fun _ _=>by kernel_rfl) fun s c w=>Any.stringslite_Index_one Tryz.lays219 s c w
  ·exact ext_fmt (fun _ _=>by kernel_rfl) (g:=0) (by kernel_rfl) fun n w h0 h1 ht=>(Any.strconv_FormatInt_10 Tryz.laysM173 n h0 h1 w ht).mono fun e w' hh=>⟨hh.1,by obtain⟨_,k,os,rfl⟩:=hh;exact Lib.below_grow _ _ (Nat.le_refl _) _ _⟩
  ·exact ext_parse (fun _ _=>by kernel_rfl) (g1:=6) (g2:=7) (by kernel_rfl) (by kernel_rfl)
    (fun s v w hz he=>(Any.strconv_ParseInt_10_at64_ok Tryz.laysC174 s (by omega) v he w).mono fun e w' hh=>⟨hh.1,by
      obtain⟨_,rfl|⟨t,rfl⟩⟩:=hh
      ·exact Below.refl _ _
      ·exact Lib.bytesWorld_below _ _ _⟩)
    (fun s w tp p hz he hv=>(Any.strconv_ParseInt_10_at64_syntax_var Tryz.laysC174 s hz he tp p w hv).mono fun e w' hh=>by
      obtain⟨N,h1,_,_,h2⟩:=hh
      exact⟨_,h1,h2⟩)
    (fun s w tp p hz he hv=>(Any.strconv_ParseInt_10_at64_range_var Tryz.laysC174 s hz he tp p w hv).mono fun e w' hh=>by
      obtain⟨N,h1,_,_,h2⟩:=hh
      exact⟨_,h1,h2⟩)
  ·exact ext_sort (fun _ _=>by kernel_rfl) (fun a c w=>Any.slices_Sort_string_none Tryz.lays190 a c w) fun blk off cap ss w h1 h2 h3=>Any.slices_Sort_string Tryz.lays190 blk off cap ss w h1 h2 h3
  ·exact ext_add64 fun x y c hc w=>Any7.bits_Add64 Tryz.lays725 x y c hc w
 ·have h:(f==74)=true:=h
  have:f=74:=by simpa using h
  subst this
  exact Go.Proofs.YtbcfceehklfojaaGreatDoor.T.tryOk
#print axioms cfgOk
end Go.Aa.T
set_option linter.unusedVariables false
set_option linter.unusedSimpArgs false
set_option maxRecDepth 100000
namespace Go.Aa.T
open Go.Aa Go.Proofs Go.RowKit Go.ChangeShapes Go.Proofs.YtbcfceehklfojaaGreatDoor
theorem star: "*" ++ "errors.errorString" = "*errors.errorString" :=by decide
theorem rowES(u:TypeId)(h:Tryz.prog.typeName? 3 u=some "*errors.errorString"):u=223:=
 typeName_ptr_named (nm:= "errors.errorString") (by rw[star];kernel_rfl) (by kernel_rfl) (by decide) u (by rw[star];exact h)
theorem var_heap{P:Program}{W:World}{n:String}{cs:Array Value}{g:Nat}(h:W.var? P n=some cs)(hg:P.globalNamed n=some g):∃e m,W.heap[g]?=some (.cells cs e m):=by
 simp only[World.var?,hg,Option.bind_some]at h
 split at h
 ·rename_i cs' e m hc
  cases h
  exact⟨e,m,hc⟩
 ·cases h
def laidL:List (String×DataW Unit):=Rows.resPartsRow.laid
theorem pow_eq:(Rows.laid_internal_strconv_uint64pow10:DataW Unit)=Lib.tabData .u64 Lib.pow10Tab:=by kernel_rfl
theorem cellsES:Tryz.prog.cellsOf 225=1:=by kernel_rfl
theorem cellsS:Tryz.prog.cellsOf 9=1:=by kernel_rfl
theorem glob0W{W:World}(h:laidMet Tryz.prog laidL W):Glob0 Tryz.prog W:=by
 have h2:=laidMet.tail (laidMet.tail h)
 have ht:Lib.TabIs Tryz.prog W "internal/strconv.uint64pow10" .u64 Lib.pow10Tab:=by
  have h3:laidMet Tryz.prog (("internal/strconv.uint64pow10",Rows.laid_internal_strconv_uint64pow10)::_) W:=h2
  rw[pow_eq]at h3
  exact Lib.tabIs_of_head (g:=0) (t:=176) (n:=20) (by kernel_rfl) (by kernel_rfl) Tryz.underlying176 Tryz.underlying138 (by kernel_rfl) (by kernel_rfl) h3
 have h4:=laidMet.tail (laidMet.tail h2)
 obtain⟨a1,s1,hv1,-,-,-⟩:=laid_sentinel h4 (g:=7) (ti:=130) (tp:=223) (te:=225) (ts:=9) (by kernel_rfl) (by kernel_rfl) Tryz.underlying130 rowES Tryz.underlying223 Tryz.underlying225 rfl rfl Tryz.underlying9 cellsES cellsS
 have h5:=laidMet.tail h4
 obtain⟨a2,s2,hv2,-,-,-⟩:=laid_sentinel h5 (g:=6) (ti:=130) (tp:=223) (te:=225) (ts:=9) (by kernel_rfl) (by kernel_rfl) Tryz.underlying130 rowES Tryz.underlying223 Tryz.underlying225 rfl rfl Tryz.underlying9 cellsES cellsS
 intro s hs g hg
 simp only[globSpec,List.mem_cons,List.not_mem_nil,or_false]at hs
 rcases hs with rfl|rfl|rfl
 ·obtain⟨e,m,hh⟩:=var_heap ht hg
  exact⟨_,e,m,hh,rfl⟩
 ·obtain⟨e,m,hh⟩:=var_heap hv2 hg
  exact⟨_,e,m,hh,_,_,rfl⟩
 ·obtain⟨e,m,hh⟩:=var_heap hv1 hg
  exact⟨_,e,m,hh,_,_,rfl⟩
end Go.Aa.T
set_option linter.unusedVariables false
set_option linter.unusedSimpArgs false
namespace Go.Aa
variable{P:Program}{R:List (Nat×Nat)}
def rkOf(R:List (Nat×Nat))(u:Nat):Option Nat:=(R.find? fun p=>p.1==u).map (·.2)
def rkB(P:Program)(R:List (Nat×Nat)):Bool:=R.all fun p=>(P.partsOf p.1).all fun v=>match rkOf R v with
 |some r=>Nat.blt r p.2
 |none=>false
theorem rk_part(h:rkB P R=true){u ru v:Nat}(hu:rkOf R u=some ru)(hv:v∈P.partsOf u):∃r,rkOf R v=some r∧r<ru:=by
 unfold rkOf at hu
 obtain⟨p,hp,rfl⟩:=Option.map_eq_some_iff.1 hu
 have hm:=List.mem_of_find?_eq_some hp
 have he:=List.find?_some hp
 simp only[beq_iff_eq]at he
 have h1:=List.all_eq_true.1 h p hm
 rw[he]at h1
 have h2:=List.all_eq_true.1 h1 v hv
 split at h2
 ·rename_i r hr
  exact⟨r,hr,by simpa using h2⟩
 ·cases h2
theorem rk_grow(h:rkB P R=true){s:List TypeId}{r:Nat}(hs:∀x∈s,∃q,rkOf R x=some q∧q≤r):∀x∈P.grow s,∃q,rkOf R x=some q∧q≤r:=by
 intro x hx
 unfold Program.grow at hx
 rw[List.mem_eraseDups,List.mem_append]at hx
 rcases hx with hx|hx
 ·exact hs x hx
 ·obtain⟨u,hu,hx⟩:=List.mem_flatMap.1 hx
  obtain⟨q,hq,hl⟩:=hs u hu
  obtain⟨q',hq',hl'⟩:=rk_part h hq hx
  exact⟨q',hq',by omega⟩
theorem rk_grown(h:rkB P R=true){r:Nat}:∀(n:Nat){s:List TypeId},(∀x∈s,∃q,rkOf R x=some q∧q≤r)→∀x∈P.grown n s,∃q,rkOf R x=some q∧q≤r
 |0,_,hs=>hs
 |n+1,_,hs=>rk_grown h n (rk_grow h hs)
theorem rk_book(h:rkB P R=true){t r:Nat}(ht:rkOf R t=some r):∀x∈P.book t,∃q,rkOf R x=some q∧q≤r:=
 rk_grown h _ fun x hx=>by
  rw[List.mem_singleton]at hx
  subst hx
  exact⟨r,ht,Nat.le_refl _⟩
theorem rk_loops(h:rkB P R=true){t r:Nat}(ht:rkOf R t=some r):P.loopsFrom t=false:=by
 unfold Program.loopsFrom
 rw[List.any_eq_false]
 intro u hu
 obtain⟨ru,hu1,-⟩:=rk_book h ht u hu
 simp only[Bool.not_eq_true]
 rw[List.any_eq_false]
 intro v hv
 obtain⟨rv,hv1,hlt⟩:=rk_part h hu1 hv
 intro hc
 have hm:u∈P.book v:=by simpa using hc
 obtain⟨q,hq,hl⟩:=rk_book h hv1 u hm
 rw[hu1]at hq
 simp only[Option.some.injEq]at hq
 omega
theorem rk_all(h:rkB P R=true){ts:List TypeId}(ht:(ts.all fun t=>(rkOf R t).isSome)=true):ts.any (P.loopsFrom ·)=false:=by
 rw[List.any_eq_false]
 intro t hm
 have:=List.all_eq_true.1 ht t hm
 obtain⟨r,hr⟩:=Option.isSome_iff_exists.1 this
 rw[rk_loops h hr]
 exact Bool.false_ne_true
end Go.Aa


