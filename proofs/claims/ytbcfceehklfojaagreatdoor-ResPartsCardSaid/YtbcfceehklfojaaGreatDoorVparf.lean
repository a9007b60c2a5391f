/-
  WHAT THE LAW LEANS ON, part 6 of 6: a machine of values and its soundness; the functions of the law upon it; what they come to.
-/
import Derived.Test.YtbcfceehklfojaaGreatDoorVpare
import Derived.Shelf.Sort.Plain
import Derived.Shelf.Slices.In.SortNone
import Derived.Shelf.Slices.In.SortAlone
import Derived.Shelf.Small.Strs
import Derived.Shelf.Spec.BitsCarry
import Derived.Shelf.Strconv.Itoa3
import Derived.Shelf.Strconv.Itoa4
import Derived.Shelf.Strconv.ParseIntPublic10
import Derived.Shelf.Strconv.ErrVarParseInt
import Derived.Shelf.Small.Strs
import Derived.Test.YtbcfceehklfojaaGreatDoorRows
import Derived.Stop.LaidErr
import Derived.JoinedOf
set_option linter.unusedVariables false
set_option linter.unusedSimpArgs false
set_option maxRecDepth 100000
namespace Go.Aa.T
open Go.Aa Go.Proofs
theorem lz1000:Gives cfg 148 [.int .u64 1000] (.int .i64 54):=by
 have h10:Gives cfg 140 [.int .u64 1000] (.int .i64 10):=by
  refine Gives.run (l140 _ _) ?_
  exact goG 120 [] trivial (.ff<|.ff<|.tt<|.bin (show binA .shr (.int .u64 1000) (.int .u64 8)=some (.int .u64 (Int.fdiv (1000:Int) ((2:Int)^min (Int.toNat (8:Int)) IntKind.u64.bits)))from rfl)<|.bin (show binA .add (.int .i64 0) (.int .i64 8)=some (.int .i64 (↑((7:Nat)+(1:Nat)):Int))from inc_i (by decide))<|.conv (show convA (CV.int IntKind.u8) (.int .u64 (Int.fdiv (1000:Int) ((2:Int)^min (Int.toNat (8:Int)) IntKind.u64.bits)))=some (.int .u8 (IntKind.u8.wrap (Int.fdiv (1000:Int) ((2:Int)^min (Int.toNat (8:Int)) IntKind.u64.bits))))from rfl)<|.idxs (show idxsA
 (AV.str
   ((0:UInt8)::
     (1:UInt8)::
       (2:UInt8)::
         (2:UInt8)::
           (3:UInt8)::
             (3:UInt8)::
               (3:UInt8)::
                 (3:UInt8)::
                   (4:UInt8)::
                     (4:UInt8)::
                       (4:UInt8)::
                         (4:UInt8)::
                           (4:UInt8)::
                             (4:UInt8)::
                               (4:UInt8)::
                                 (4:UInt8)::
                                   (5:UInt8)::
                                     (5:UInt8)::
                                       (5:UInt8)::
                                         (5:UInt8)::
                                           (5:UInt8)::
                                             (5:UInt8)::
                                               (5:UInt8)::
                                                 (5:UInt8)::
                                                   (5:UInt8)::
                                                     (5:UInt8)::
                                                       (5:UInt8)::
                                                         (5:UInt8)::
                                                           (5:UInt8)::
                                                             (5:UInt8)::
                                                               (5:UInt8)::
                                                                 (5:UInt8)::
                                                                   (6:UInt8)::
                                                                     (6:UInt8)::
                                                                       (6:UInt8)::
                                                                         (6:UInt8)::
                                                                           (6:UInt8)::
                                                                             (6:UInt8)::
                                                                               (6:UInt8)::
                                                                                 (6:UInt8)::
                                                                                   (6:UInt8)::
                                                                                     (6:UInt8)::
                                                                                       (6:UInt8)::
                                                                                         (6:UInt8)::
                                                                                           (6:UInt8)::
                                                                                             (6:UInt8)::
                                                                                               (6:UInt8)::
                                                                                                 (6:UInt8)::
                                                                                                   (6:UInt8)::
                                                                                                     (6:UInt8)::
                                                                                                       (6:UInt8)::
                                                                                                         (6:UInt8)::
                                                                                                           (6:UInt8)::
                                                                                                             (6:UInt8)::
                                                                                                               (6:UInt8)::
                                                                                                                 (6:UInt8)::
                                                                                                                   (6:UInt8)::
                                                                                                                     (6:UInt8)::
                                                                                                                       (6:UInt8)::
                                                                                                                         (6:UInt8)::
                                                                                                                           (6:UInt8)::
                                                                                                                             (6:UInt8)::
                                                                                                                               (6:UInt8)::
                                                                                                                                 (6:UInt8)::
                                                                                                                                   have y:=
                                                                                                                                    have y:=
                                                                                                                                     have y:=
                                                                                                                                      have y:=
                                                                                                                                       (7:UInt8)::
                                                                                                                                         (7:UInt8)::
                                                                                                                                           (7:UInt8)::
                                                                                                                                             (7:UInt8)::
                                                                                                                                               have y:=
                                                                                                                                                have y:=
                                                                                                                                                 have y:=
                                                                                                                                                  have y:=
                                                                                                                                                   have y:=[(8:UInt8),(8:UInt8),(8:UInt8),(8:UInt8)];
                                                                                                                                                   (8:UInt8)::(8:UInt8)::(8:UInt8)::(8:UInt8)::y;
                                                                                                                                                  have y:=(8:UInt8)::(8:UInt8)::(8:UInt8)::(8:UInt8)::y;
                                                                                                                                                  (8:UInt8)::(8:UInt8)::(8:UInt8)::(8:UInt8)::y;
                                                                                                                                                 have y:=
                                                                                                                                                  have y:=(8:UInt8)::(8:UInt8)::(8:UInt8)::(8:UInt8)::y;
                                                                                                                                                  (8:UInt8)::(8:UInt8)::(8:UInt8)::(8:UInt8)::y;
                                                                                                                                                 have y:=(8:UInt8)::(8:UInt8)::(8:UInt8)::(8:UInt8)::y;
                                                                                                                                                 (8:UInt8)::(8:UInt8)::(8:UInt8)::(8:UInt8)::y;
                                                                                                                                                have y:=
                                                                                                                                                 have y:=
                                                                                                                                                  have y:=(8:UInt8)::(8:UInt8)::(8:UInt8)::(8:UInt8)::y;
                                                                                                                                                  (8:UInt8)::(8:UInt8)::(8:UInt8)::(8:UInt8)::y;
                                                                                                                                                 have y:=(8:UInt8)::(8:UInt8)::(8:UInt8)::(8:UInt8)::y;
                                                                                                                                                 (8:UInt8)::(8:UInt8)::(8:UInt8)::(8:UInt8)::y;
                                                                                                                                                have y:=
                                                                                                                                                 have y:=(8:UInt8)::(8:UInt8)::(8:UInt8)::(8:UInt8)::y;
                                                                                                                                                 (8:UInt8)::(8:UInt8)::(8:UInt8)::(8:UInt8)::y;
                                                                                                                                                have y:=(8:UInt8)::(8:UInt8)::(8:UInt8)::(8:UInt8)::y;
                                                                                                                                                (8:UInt8)::(8:UInt8)::(8:UInt8)::(8:UInt8)::y;
                                                                                                                                               have y:=
                                                                                                                                                have y:=
                                                                                                                                                 have y:=
                                                                                                                                                  have y:=(8:UInt8)::(8:UInt8)::(8:UInt8)::(8:UInt8)::y;
                                                                                                                                                  (8:UInt8)::(8:UInt8)::(8:UInt8)::(8:UInt8)::y;
                                                                                                                                                 have y:=(8:UInt8)::(8:UInt8)::(8:UInt8)::(8:UInt8)::y;
                                                                                                                                                 (8:UInt8)::(8:UInt8)::(8:UInt8)::(8:UInt8)::y;
                                                                                                                                                have y:=
                                                                                                                                                 have y:=(8:UInt8)::(8:UInt8)::(8:UInt8)::(8:UInt8)::y;
                                                                                                                                                 (8:UInt8)::(8:UInt8)::(8:UInt8)::(8:UInt8)::y;
                                                                                                                                                have y:=(8:UInt8)::(8:UInt8)::(8:UInt8)::(8:UInt8)::y;
                                                                                                                                                (8:UInt8)::(8:UInt8)::(8:UInt8)::(8:UInt8)::y;
                                                                                                                                               have y:=
                                                                                                                                                have y:=
                                                                                                                                                 have y:=(8:UInt8)::(8:UInt8)::(8:UInt8)::(8:UInt8)::y;
                                                                                                                                                 (8:UInt8)::(8:UInt8)::(8:UInt8)::(8:UInt8)::y;
                                                                                                                                                have y:=(8:UInt8)::(8:UInt8)::(8:UInt8)::(8:UInt8)::y;
                                                                                                                                                (8:UInt8)::(8:UInt8)::(8:UInt8)::(8:UInt8)::y;
                                                                                                                                               have y:=
                                                                                                                                                have y:=(8:UInt8)::(8:UInt8)::(8:UInt8)::(8:UInt8)::y;
                                                                                                                                                (8:UInt8)::(8:UInt8)::(8:UInt8)::(8:UInt8)::y;
                                                                                                                                               have y:=(8:UInt8)::(8:UInt8)::(8:UInt8)::(8:UInt8)::y;
                                                                                                                                               (8:UInt8)::(8:UInt8)::(8:UInt8)::(8:UInt8)::y;
                                                                                                                                      (7:UInt8)::(7:UInt8)::(7:UInt8)::(7:UInt8)::y;
                                                                                                                                     have y:=(7:UInt8)::(7:UInt8)::(7:UInt8)::(7:UInt8)::y;
                                                                                                                                     (7:UInt8)::(7:UInt8)::(7:UInt8)::(7:UInt8)::y;
                                                                                                                                    have y:=
                                                                                                                                     have y:=(7:UInt8)::(7:UInt8)::(7:UInt8)::(7:UInt8)::y;
                                                                                                                                     (7:UInt8)::(7:UInt8)::(7:UInt8)::(7:UInt8)::y;
                                                                                                                                    have y:=(7:UInt8)::(7:UInt8)::(7:UInt8)::(7:UInt8)::y;
                                                                                                                                    (7:UInt8)::(7:UInt8)::(7:UInt8)::(7:UInt8)::y;
                                                                                                                                   have y:=
                                                                                                                                    have y:=
                                                                                                                                     have y:=(7:UInt8)::(7:UInt8)::(7:UInt8)::(7:UInt8)::y;
                                                                                                                                     (7:UInt8)::(7:UInt8)::(7:UInt8)::(7:UInt8)::y;
                                                                                                                                    have y:=(7:UInt8)::(7:UInt8)::(7:UInt8)::(7:UInt8)::y;
                                                                                                                                    (7:UInt8)::(7:UInt8)::(7:UInt8)::(7:UInt8)::y;
                                                                                                                                   have y:=
                                                                                                                                    have y:=(7:UInt8)::(7:UInt8)::(7:UInt8)::(7:UInt8)::y;
                                                                                                                                    (7:UInt8)::(7:UInt8)::(7:UInt8)::(7:UInt8)::y;
                                                                                                                                   have y:=(7:UInt8)::(7:UInt8)::(7:UInt8)::(7:UInt8)::y;
                                                                                                                                   (7:UInt8)::(7:UInt8)::(7:UInt8)::(7:UInt8)::y))
 (AV.int .u8 (IntKind.u8.wrap (Int.fdiv (1000:Int) ((2:Int)^min (Int.toNat (8:Int)) IntKind.u64.bits))))=some (AV.int .u8 (↑(UInt8.toNat (2:UInt8)):Int))from rfl)<|.conv (show convA (CV.int IntKind.i64) (AV.int .u8 (↑(UInt8.toNat (2:UInt8)):Int))=some (AV.int .i64 (IntKind.i64.wrap (↑(UInt8.toNat (2:UInt8)):Int)))from rfl)<|.bin (show binA .add (AV.int .i64 (↑((7:Nat)+(1:Nat)):Int)) (AV.int .i64 (IntKind.i64.wrap (↑(UInt8.toNat (2:UInt8)):Int)))=some (AV.int .i64 (↑((7:Nat)+(2:Nat)+(1:Nat)):Int))from inc_i (by decide))<|.fin ((ARes.ret (AV.int .i64 (↑((7:Nat)+(2:Nat)+(1:Nat)):Int)),{boxes:=[],toks:=[],loops:=[]:Heap})) rfl) (by kernel_rfl)
 refine Gives.run (l148 _ _) ?_
 exact goG 60 [] trivial (.callI h10<|.bin (show binA .sub (.int .i64 64) (.int .i64 10)=some (.int .i64 (↑((53:Nat)+(1:Nat)):Int))from inc_i (by omega))<|.fin ((.ret (.int .i64 (↑((53:Nat)+(1:Nat)):Int)),{boxes:=[],toks:=[],loops:=[]:Heap})) rfl) (by kernel_rfl)
theorem div64_one(lo:Nat)(hl:lo<18446744073709551616):∃rem:Int,Gives cfg 127 [.int .u64 (0:Nat),.int .u64 (lo:Int),.int .u64 1000] (.tuple [.int .u64 ((lo/1000:Nat):Int),.int .u64 rem]):=by
 have q:=uQuo (a:=lo) (m:=1000) hl (by decide)
 have r:binA .rem (.int .u64 (lo:Int)) (.int .u64 1000)=some (.int .u64 ((lo%1000:Nat):Int)):=rem_nat (m:=1000) (by decide)
 have q:binA .quo (.int .u64 (lo:Int)) (.int .u64 1000)=some (.int .u64 ((lo/1000:Nat):Int)):=q
 refine⟨((lo%1000:Nat):Int),Gives.run (l127 _ _) ?_⟩
 generalize lo/1000=d at*
 generalize lo%1000=e at*
 exact goG 120 [] trivial (.ff<|.ff<|.tt<|.bin (show binA .quo (.int .u64 ↑lo) (.int .u64 1000)=some (.int .u64 ↑d)from q)<|.bin (show binA .rem (.int .u64 ↑lo) (.int .u64 1000)=some (.int .u64 ↑e)from r)<|.fin ((.ret (.tuple [.int .u64 ↑d,.int .u64 ↑e]),{boxes:=[],toks:=[],loops:=[]:Heap})) rfl) (by kernel_rfl)
end Go.Aa.T
set_option linter.unusedVariables false
set_option linter.unusedSimpArgs false
set_option maxRecDepth 100000
namespace Go.Aa.T
open Go.Aa Go.Proofs
theorem div_loop2{Y s:Int}{q1 q0 u21 u0 r0 Q RR B2 B3 B4 B5 B6 B7 D:Nat}(k2:q1<4294967296)(k3:q0<4294967296)
 (w4:binA .mul (.int .u64 (q0:Int)) (.int .u64 0)=some (.int .u64 0))
 (w5:binA .mul (.int .u64 4294967296) (.int .u64 (r0:Int))=some (.int .u64 (B2:Int)))
 (w6:binA .add (.int .u64 (B2:Int)) (.int .u64 (u0:Int))=some (.int .u64 (B3:Int)))
 (x1:binA .mul (.int .u64 (q1:Int)) (.int .u64 4294967296)=some (.int .u64 (B4:Int)))
 (x2:binA .add (.int .u64 (B4:Int)) (.int .u64 (q0:Int))=some (.int .u64 (Q:Int)))
 (x3:binA .mul (.int .u64 (u21:Int)) (.int .u64 4294967296)=some (.int .u64 (B5:Int)))
 (x4:binA .add (.int .u64 (B5:Int)) (.int .u64 (u0:Int))=some (.int .u64 (B6:Int)))
 (x5:binA .mul (.int .u64 (q0:Int)) (.int .u64 Y)=some (.int .u64 (B7:Int)))
 (x6:binA .sub (.int .u64 (B6:Int)) (.int .u64 (B7:Int))=some (.int .u64 (D:Int)))
 (x7:binA .shr (.int .u64 (D:Int)) (.int .u64 s)=some (.int .u64 (RR:Int)))
 (T:Env)(hT:Has T [(2,.int .u64 Y),(8,.int .u64 s),(10,.int .u64 0),(14,.int .u64 (u0:Int)),(15,.int .u64 (q1:Int)),(16,.int .u64 (r0:Int)),(17,.int .u64 (u21:Int)),(18,.int .u64 (q0:Int))]):
 Goes cfg a127 k127_1 T Heap.nil (IsRet (.tuple [.int .u64 (Q:Int),.int .u64 (RR:Int)])):=by
 exact goG 120 [(2,.int .u64 Y),(8,.int .u64 s),(10,.int .u64 0),(14,.int .u64 (u0:Int)),(15,.int .u64 (q1:Int)),(16,.int .u64 (r0:Int)),(17,.int .u64 (u21:Int)),(18,.int .u64 (q0:Int))] hT (.no (show(decide ((4294967296:Int)≤(↑q0:Int)))=false from decide_eq_false (by omega))<|.bin (show binA .mul (.int .u64 ↑q0) (.int .u64 0)=some (.int .u64 0)from w4)<|.bin (show binA .mul (.int .u64 4294967296) (.int .u64 ↑r0)=some (.int .u64 ↑B2)from w5)<|.bin (show binA .add (.int .u64 ↑B2) (.int .u64 ↑u0)=some (.int .u64 ↑B3)from w6)<|.ff<|.bin (show binA .mul (.int .u64 ↑q1) (.int .u64 4294967296)=some (.int .u64 ↑B4)from x1)<|.bin (show binA .add (.int .u64 ↑B4) (.int .u64 ↑q0)=some (.int .u64 ↑Q)from x2)<|.bin (show binA .mul (.int .u64 ↑u21) (.int .u64 4294967296)=some (.int .u64 ↑B5)from x3)<|.bin (show binA .add (.int .u64 ↑B5) (.int .u64 ↑u0)=some (.int .u64 ↑B6)from x4)<|.bin (show binA .mul (.int .u64 ↑q0) (.int .u64 Y)=some (.int .u64 ↑B7)from x5)<|.bin (show binA .sub (.int .u64 ↑B6) (.int .u64 ↑B7)=some (.int .u64 ↑D)from x6)<|.bin (show binA .shr (.int .u64 ↑D) (.int .u64 s)=some (.int .u64 ↑RR)from x7)<|.fin ((.ret (.tuple [.int .u64 ↑Q,.int .u64 ↑RR]),{boxes:=[],toks:=[],loops:=[]:Heap})) rfl) (by kernel_rfl)
theorem div_loop1{Y yn1 s:Int}{un32 un1 q1 q0 r1 u21 u0 r0 Q RR rr1 z1 A1 A2 A3 B1 B2 B3 B4 B5 B6 B7 D:Nat}(k2:q1<4294967296)(k3:q0<4294967296)
 (t4:binA .mul (.int .u64 (q1:Int)) (.int .u64 0)=some (.int .u64 0))
 (t5:binA .mul (.int .u64 4294967296) (.int .u64 (r1:Int))=some (.int .u64 (rr1:Int)))
 (t6:binA .add (.int .u64 (rr1:Int)) (.int .u64 (un1:Int))=some (.int .u64 (z1:Int)))
 (v1:binA .mul (.int .u64 (un32:Int)) (.int .u64 4294967296)=some (.int .u64 (A1:Int)))
 (v2:binA .add (.int .u64 (A1:Int)) (.int .u64 (un1:Int))=some (.int .u64 (A2:Int)))
 (v3:binA .mul (.int .u64 (q1:Int)) (.int .u64 Y)=some (.int .u64 (A3:Int)))
 (v4:binA .sub (.int .u64 (A2:Int)) (.int .u64 (A3:Int))=some (.int .u64 (u21:Int)))
 (w1:binA .quo (.int .u64 (u21:Int)) (.int .u64 yn1)=some (.int .u64 (q0:Int)))
 (w2:binA .mul (.int .u64 (q0:Int)) (.int .u64 yn1)=some (.int .u64 (B1:Int)))
 (w3:binA .sub (.int .u64 (u21:Int)) (.int .u64 (B1:Int))=some (.int .u64 (r0:Int)))
 (w4:binA .mul (.int .u64 (q0:Int)) (.int .u64 0)=some (.int .u64 0))
 (w5:binA .mul (.int .u64 4294967296) (.int .u64 (r0:Int))=some (.int .u64 (B2:Int)))
 (w6:binA .add (.int .u64 (B2:Int)) (.int .u64 (u0:Int))=some (.int .u64 (B3:Int)))
 (x1:binA .mul (.int .u64 (q1:Int)) (.int .u64 4294967296)=some (.int .u64 (B4:Int)))
 (x2:binA .add (.int .u64 (B4:Int)) (.int .u64 (q0:Int))=some (.int .u64 (Q:Int)))
 (x3:binA .mul (.int .u64 (u21:Int)) (.int .u64 4294967296)=some (.int .u64 (B5:Int)))
 (x4:binA .add (.int .u64 (B5:Int)) (.int .u64 (u0:Int))=some (.int .u64 (B6:Int)))
 (x5:binA .mul (.int .u64 (q0:Int)) (.int .u64 Y)=some (.int .u64 (B7:Int)))
 (x6:binA .sub (.int .u64 (B6:Int)) (.int .u64 (B7:Int))=some (.int .u64 (D:Int)))
 (x7:binA .shr (.int .u64 (D:Int)) (.int .u64 s)=some (.int .u64 (RR:Int)))
 (T:Env)(hT:Has T [(2,.int .u64 Y),(8,.int .u64 s),(9,.int .u64 yn1),(10,.int .u64 0),(11,.int .u64 (un32:Int)),(13,.int .u64 (un1:Int)),(14,.int .u64 (u0:Int)),(15,.int .u64 (q1:Int)),(16,.int .u64 (r1:Int))]):
 Goes cfg a127 k127_0 T Heap.nil (IsRet (.tuple [.int .u64 (Q:Int),.int .u64 (RR:Int)])):=by
 have ih:=div_loop2 (Y:=Y) (s:=s) k2 k3 w4 w5 w6 x1 x2 x3 x4 x5 x6 x7
 exact goG 120 [(2,.int .u64 Y),(8,.int .u64 s),(9,.int .u64 yn1),(10,.int .u64 0),(11,.int .u64 (un32:Int)),(13,.int .u64 (un1:Int)),(14,.int .u64 (u0:Int)),(15,.int .u64 (q1:Int)),(16,.int .u64 (r1:Int))] hT (.no (show(decide ((4294967296:Int)≤(↑q1:Int)))=false from decide_eq_false (by omega))<|.bin (show binA .mul (.int .u64 ↑q1) (.int .u64 0)=some (.int .u64 0)from t4)<|.bin (show binA .mul (.int .u64 4294967296) (.int .u64 ↑r1)=some (.int .u64 ↑rr1)from t5)<|.bin (show binA .add (.int .u64 ↑rr1) (.int .u64 ↑un1)=some (.int .u64 ↑z1)from t6)<|.ff<|.bin (show binA .mul (.int .u64 ↑un32) (.int .u64 4294967296)=some (.int .u64 ↑A1)from v1)<|.bin (show binA .add (.int .u64 ↑A1) (.int .u64 ↑un1)=some (.int .u64 ↑A2)from v2)<|.bin (show binA .mul (.int .u64 ↑q1) (.int .u64 Y)=some (.int .u64 ↑A3)from v3)<|.bin (show binA .sub (.int .u64 ↑A2) (.int .u64 ↑A3)=some (.int .u64 ↑u21)from v4)<|.bin (show binA .quo (.int .u64 ↑u21) (.int .u64 yn1)=some (.int .u64 ↑q0)from w1)<|.bin (show binA .mul (.int .u64 ↑q0) (.int .u64 yn1)=some (.int .u64 ↑B1)from w2)<|.bin (show binA .sub (.int .u64 ↑u21) (.int .u64 ↑B1)=some (.int .u64 ↑r0)from w3)<|.cutQ k127_1 [(2,.int .u64 Y),(8,.int .u64 s),(10,.int .u64 0),(14,.int .u64 ↑u0),(15,.int .u64 ↑q1),(16,.int .u64 ↑r0),(17,.int .u64 ↑u21),(18,.int .u64 ↑q0)] ({boxes:=[],toks:=[],loops:=[]:Heap}) (fun T hT=>(ih T hT))) (by kernel_rfl)
theorem div64_walk{y Y yn1 s sh:Int}{hi lo un32 un1 q1 r1 q0 u21 L u0 r0 Q RR lo10 hi54 qy rr1 z1 A1 A2 A3 B1 B2 B3 B4 B5 B6 B7:Nat}(lz:Gives cfg 148 [.int .u64 y] (.int .i64 s))(cv:convA (.int .u64) (.int .i64 s)=some (.int .u64 s))(e0:(y==0)=false)(e1:(decide (y≤(hi:Int)))=false)(e2:((hi:Int)==0)=false)(s1:binA .shl (.int .u64 y) (.int .u64 s)=some (.int .u64 Y))(s2:binA .shr (.int .u64 Y) (.int .u64 32)=some (.int .u64 yn1))(s3:binA .and (.int .u64 Y) (.int .u64 4294967295)=some (.int .u64 0))(s5:binA .sub (.int .u64 64) (.int .u64 s)=some (.int .u64 sh))(k2:q1<4294967296)(k3:q0<4294967296)
 (s4:binA .shl (.int .u64 (hi:Int)) (.int .u64 s)=some (.int .u64 (hi54:Int)))
 (s6:binA .shr (.int .u64 (lo:Int)) (.int .u64 sh)=some (.int .u64 (lo10:Int)))
 (s7:binA .or (.int .u64 (hi54:Int)) (.int .u64 (lo10:Int))=some (.int .u64 (un32:Int)))
 (s8:binA .shl (.int .u64 (lo:Int)) (.int .u64 s)=some (.int .u64 (L:Int)))
 (s9:binA .shr (.int .u64 (L:Int)) (.int .u64 32)=some (.int .u64 (un1:Int)))
 (t0:binA .and (.int .u64 (L:Int)) (.int .u64 4294967295)=some (.int .u64 (u0:Int)))
 (t1:binA .quo (.int .u64 (un32:Int)) (.int .u64 yn1)=some (.int .u64 (q1:Int)))
 (t2:binA .mul (.int .u64 (q1:Int)) (.int .u64 yn1)=some (.int .u64 (qy:Int)))
 (t3:binA .sub (.int .u64 (un32:Int)) (.int .u64 (qy:Int))=some (.int .u64 (r1:Int)))
 (t4:binA .mul (.int .u64 (q1:Int)) (.int .u64 0)=some (.int .u64 0))
 (t5:binA .mul (.int .u64 4294967296) (.int .u64 (r1:Int))=some (.int .u64 (rr1:Int)))
 (t6:binA .add (.int .u64 (rr1:Int)) (.int .u64 (un1:Int))=some (.int .u64 (z1:Int)))
 (v1:binA .mul (.int .u64 (un32:Int)) (.int .u64 4294967296)=some (.int .u64 (A1:Int)))
 (v2:binA .add (.int .u64 (A1:Int)) (.int .u64 (un1:Int))=some (.int .u64 (A2:Int)))
 (v3:binA .mul (.int .u64 (q1:Int)) (.int .u64 Y)=some (.int .u64 (A3:Int)))
 (v4:binA .sub (.int .u64 (A2:Int)) (.int .u64 (A3:Int))=some (.int .u64 (u21:Int)))
 (w1:binA .quo (.int .u64 (u21:Int)) (.int .u64 yn1)=some (.int .u64 (q0:Int)))
 (w2:binA .mul (.int .u64 (q0:Int)) (.int .u64 yn1)=some (.int .u64 (B1:Int)))
 (w3:binA .sub (.int .u64 (u21:Int)) (.int .u64 (B1:Int))=some (.int .u64 (r0:Int)))
 (w4:binA .mul (.int .u64 (q0:Int)) (.int .u64 0)=some (.int .u64 0))
 (w5:binA .mul (.int .u64 4294967296) (.int .u64 (r0:Int))=some (.int .u64 (B2:Int)))
 (w6:binA .add (.int .u64 (B2:Int)) (.int .u64 (u0:Int))=some (.int .u64 (B3:Int)))
 (x1:binA .mul (.int .u64 (q1:Int)) (.int .u64 4294967296)=some (.int .u64 (B4:Int)))
 (x2:binA .add (.int .u64 (B4:Int)) (.int .u64 (q0:Int))=some (.int .u64 (Q:Int)))
 (x3:binA .mul (.int .u64 (u21:Int)) (.int .u64 4294967296)=some (.int .u64 (B5:Int)))
 (x4:binA .add (.int .u64 (B5:Int)) (.int .u64 (u0:Int))=some (.int .u64 (B6:Int)))
 (x5:binA .mul (.int .u64 (q0:Int)) (.int .u64 Y)=some (.int .u64 (B7:Int)))
 {D:Nat}(x6:binA .sub (.int .u64 (B6:Int)) (.int .u64 (B7:Int))=some (.int .u64 (D:Int)))
 (x7:binA .shr (.int .u64 (D:Int)) (.int .u64 s)=some (.int .u64 (RR:Int))):
 Gives cfg 127 [.int .u64 (hi:Int),.int .u64 (lo:Int),.int .u64 y] (.tuple [.int .u64 (Q:Int),.int .u64 (RR:Int)]):=by
 have ih:=div_loop1 k2 k3 t4 t5 t6 v1 v2 v3 v4 w1 w2 w3 w4 w5 w6 x1 x2 x3 x4 x5 x6 x7
 refine Gives.run (l127 _ _) ?_
 exact goG 240 [] trivial (.no (show(y==(0:Int))=false from Bool.eq_false_iff.2 (by simpa using e0))<|.no (show(decide (y≤(↑hi:Int)))=false from decide_eq_false (by simpa using e1))<|.no (show((↑hi:Int)==(0:Int))=false from Bool.eq_false_iff.2 (by simpa using e2))<|.callI lz<|.conv (show convA (CV.int IntKind.u64) (.int .i64 s)=some (.int .u64 s)from cv)<|.bin (show binA .shl (.int .u64 y) (.int .u64 s)=some (.int .u64 Y)from s1)<|.bin (show binA .shr (.int .u64 Y) (.int .u64 32)=some (.int .u64 yn1)from s2)<|.bin (show binA .and (.int .u64 Y) (.int .u64 4294967295)=some (.int .u64 0)from s3)<|.bin (show binA .shl (.int .u64 ↑hi) (.int .u64 s)=some (.int .u64 ↑hi54)from s4)<|.bin (show binA .sub (.int .u64 64) (.int .u64 s)=some (.int .u64 sh)from s5)<|.bin (show binA .shr (.int .u64 ↑lo) (.int .u64 sh)=some (.int .u64 ↑lo10)from s6)<|.bin (show binA .or (.int .u64 ↑hi54) (.int .u64 ↑lo10)=some (.int .u64 ↑un32)from s7)<|.bin (show binA .shl (.int .u64 ↑lo) (.int .u64 s)=some (.int .u64 ↑L)from s8)<|.bin (show binA .shr (.int .u64 ↑L) (.int .u64 32)=some (.int .u64 ↑un1)from s9)<|.bin (show binA .and (.int .u64 ↑L) (.int .u64 4294967295)=some (.int .u64 ↑u0)from t0)<|.bin (show binA .quo (.int .u64 ↑un32) (.int .u64 yn1)=some (.int .u64 ↑q1)from t1)<|.bin (show binA .mul (.int .u64 ↑q1) (.int .u64 yn1)=some (.int .u64 ↑qy)from t2)<|.bin (show binA .sub (.int .u64 ↑un32) (.int .u64 ↑qy)=some (.int .u64 ↑r1)from t3)<|.cutQ k127_0 [(2,.int .u64 Y),(8,.int .u64 s),(9,.int .u64 yn1),(10,.int .u64 0),(11,.int .u64 ↑un32),(13,.int .u64 ↑un1),(14,.int .u64 ↑u0),(15,.int .u64 ↑q1),(16,.int .u64 ↑r1)] ({boxes:=[],toks:=[],loops:=[]:Heap}) (fun T hT=>(ih T hT))) (by kernel_rfl)
theorem div64_two(hi lo:Nat)(h0:0<hi)(h:hi<1000)(hl:lo<18446744073709551616):∃rem:Nat,Gives cfg 127 [.int .u64 (hi:Int),.int .u64 (lo:Int),.int .u64 1000] (.tuple [.int .u64 (((hi*18446744073709551616+lo)/1000:Nat):Int),.int .u64 (rem:Int)]):=
 div64_arith (fun Q R=>Gives cfg 127 [.int .u64 (hi:Int),.int .u64 (lo:Int),.int .u64 1000] (.tuple [.int .u64 (Q:Int),.int .u64 (R:Int)])) hi lo h0 h hl
  fun k2 k3 s4 s6 s7 s8 s9 t0 t1 t2 t3 t4 t5 t6 v1 v2 v3 v4 w1 w2 w3 w4 w5 w6 x1 x2 x3 x4 x5 _ x6 x7=>div64_walk lz1000 (by kernel_rfl) (by decide) (by simp;omega) (by simp;omega) (by kernel_rfl) (by kernel_rfl) (by kernel_rfl) (by kernel_rfl) k2 k3 s4 s6 s7 s8 s9 t0 t1 t2 t3 t4 t5 t6 v1 v2 v3 v4 w1 w2 w3 w4 w5 w6 x1 x2 x3 x4 x5 x6 x7
end Go.Aa.T
set_option linter.unusedVariables false
set_option linter.unusedSimpArgs false
set_option maxRecDepth 100000
namespace Go.Aa.T
open Go.Aa Go.Proofs
def uqG(x:List UInt8):List (List UInt8)→List (List UInt8)
 |[]=>[]
 |y::l=>if y=x then uqG x l else y::uqG y l
def uq:List (List UInt8)→List (List UInt8)
 |[]=>[]
 |x::l=>x::uqG x l
def namesOf(l:List (List UInt8)):List (List UInt8):=uq (isort l)
theorem uqG_len(x:List UInt8):∀l:List (List UInt8),(uqG x l).length≤l.length
 |[]=>Nat.le_refl _
 |y::l=>by
  unfold uqG
  split
  ·have:=uqG_len x l;simp;omega
  ·have:=uqG_len y l;simp;omega
theorem uq_len(l:List (List UInt8)):(uq l).length≤l.length:=by
 cases l with
 |nil=>exact Nat.le_refl _
 |cons x l=>have:=uqG_len x l;simp[uq];omega
theorem trunc_len{bs:List (List AV)}{ls:List LRec}{v:AV}{nb nt:Nat}(h:bs.length=nb):trunc nb nt v ⟨bs,[],ls⟩=⟨bs,[],ls⟩:=by
 unfold trunc
 have e:∀(b:Bool),(if b=true then bs.take nb else bs)=bs:=fun b=>by
  split
  ·exact List.take_of_length_le (by omega)
  ·rfl
 simp only[e,List.take_nil,ite_self]
theorem unrow_one:∀(n:Nat)(cs:List AV),n≤cs.length→unrow 1 n cs=cs.take n
 |0,cs,_=>by simp[unrow]
 |n+1,[],h=>by simp at h
 |n+1,c::cs,h=>by
  simp only[unrow,if_true,List.headD_cons,List.drop_succ_cons,List.drop_zero,List.take_succ_cons]
  rw[unrow_one n cs (by simpa using h)]
theorem strs_data(l:List (List UInt8)):(l.map AV.str).all data0=true:=List.all_eq_true.2 fun x hx=>by
 obtain⟨s,-,rfl⟩:=List.mem_map.1 hx
 rfl
theorem out_box1{bs:List (List AV)}{tk:List Nat}{ls:List LRec}{kk n:Nat}{cs:List AV}(hk:bs[kk]?=some cs)(hn:n≤cs.length)(hd:cs.all data0=true):dataOut ⟨bs,tk,ls⟩ (.msl kk 0 n 1)=some (.sl .sh (cs.take n)):=by
 have h1:frzA ⟨bs,tk,ls⟩ (.msl kk 0 n 1)=some (.sl .sh (cs.take n)):=by
  simp only[frzA,frz2,frz1,hk,Nat.zero_add,List.drop_zero,Nat.mul_one]
  rw[if_pos ⟨hn,Nat.zero_le _,Nat.one_pos,hd⟩,unrow_one n cs hn]
 unfold dataOut
 rw[if_neg (by simp[shutA,shut2,shut1,isData,data2,data1,data0]),h1]
 rfl
theorem does_load1{kk m:Nat}{bs:List (List AV)}{tk:List Nat}{ls:List LRec}{C:List (List UInt8)}{y:List UInt8}(hk:bs[kk]?=some (C.map .str))(hy:C[m]?=some y):Does cfg (.load false 1 (.c (.ptr kk m))) ⟨bs,tk,ls⟩ (.str y) ⟨bs,tk,ls⟩:=fun T=>by
 have hm:=(List.getElem?_eq_some_iff.1 hy).1
 have:loadA false 1 ⟨bs,tk,ls⟩ (.ptr kk m)=some (.str y):=by
  simp only[loadA,hk,List.length_map]
  rw[if_pos (by omega)]
  simp[hy]
 simp only[opStep,ev,this]
theorem does_store1{kk m:Nat}{bs:List (List AV)}{tk:List Nat}{ls:List LRec}{C:List (List UInt8)}(y:List UInt8)(hk:bs[kk]?=some (C.map .str))(hm:m<C.length):Does cfg (.store 1 (.c (.ptr kk m)) (.c (.str y))) ⟨bs,tk,ls⟩ .undef ⟨bs.set kk ((C.set m y).map .str),tk,ls⟩:=fun T=>by
 have:storeA 1 ⟨bs,tk,ls⟩ (.ptr kk m) (.str y)=some ⟨bs.set kk ((C.set m y).map .str),tk,ls⟩:=by
  simp only[storeA,hk,List.length_map]
  rw[if_pos ⟨by omega,rfl,rfl,by omega⟩]
  simp[AV.cells,paste,List.map_set]
 simp only[opStep,ev,this]
theorem does_growB{es b kk n:Nat}{B:List (List AV)}{tk:List Nat}{ls:List LRec}{cs:List AV}{v:AV}{sk:SK}(hk:B[kk]?=some cs)(hn:cs.length=n*es)(h0:0<n)(hd:cs.all data0=true)(hv:cellsN es v=true)(hvd:dataOk [v]=true)(hb:(n+1)*b≤140737488355328):
 Does cfg (.appendM es b (.c (.msl kk 0 n es)) (.c (.sl sk [v]))) ⟨B,tk,ls⟩ (.msl B.length 0 (n+1) es) ⟨B.set kk []++[cs++v.cells],tk,ls⟩:=fun T=>by
 have:appendMA es b ⟨B,tk,ls⟩ (.msl kk 0 n es) (.sl sk [v])=some (.msl B.length 0 (n+1) es,⟨B.set kk []++[cs++v.cells],tk,ls⟩):=by
  simp only[appendMA,hk]
  rw[if_pos ⟨trivial,trivial,h0,hn,hd,hb,by simp only[lenOk,List.all_cons,List.all_nil,Bool.and_true];exact hv,hvd⟩]
  simp[rowCells]
 simp only[opStep,ev,this]
theorem does_newB{es b:Nat}{B:List (List AV)}{tk:List Nat}{ls:List LRec}{v:AV}{sk:SK}(hv:cellsN es v=true)(hvd:dataOk [v]=true)(hb:b≤140737488355328):
 Does cfg (.appendM es b (.c (.sl .full [])) (.c (.sl sk [v]))) ⟨B,tk,ls⟩ (.msl B.length 0 1 es) ⟨B++[v.cells],tk,ls⟩:=fun T=>by
 have:appendMA es b ⟨B,tk,ls⟩ (.sl .full []) (.sl sk [v])=some (.msl B.length 0 1 es,⟨B++[v.cells],tk,ls⟩):=by
  simp only[appendMA]
  rw[if_pos ⟨by trivial,by trivial,by simpa using hb,by simp only[lenOk,List.all_cons,List.all_nil,Bool.and_true];exact hv,hvd⟩]
  simp[rowCells]
 simp only[opStep,ev,this]
section
variable(kk n:Nat)(B0:List (List AV))
def RetC(res:List (List UInt8))(r:ARes×Heap):Prop:=∃(m:Nat)(C:List (List UInt8)),r=(.ret (.msl kk 0 m 1),⟨B0.set kk (C.map .str),[],[]⟩)∧C.take m=res∧m≤C.length∧C.length=n
theorem compact_loop2(hn:n<9223372036854775807)(hk0:kk<B0.length)(k0:Nat)(h1:1≤k0):∀(post:List (List UInt8))(q m:Nat)(prev:List UInt8)(U C:List (List UInt8))(hm:m=k0+q)(hq:1≤q)(hC:C.length=n)(hU:C.take U.length=U)(hd:C.drop (m-1)=prev::post)(hl:U.length+1≤m)(T:Env)
 (hT:Has T [(0,.msl kk 0 n 1),(3,.int .i64 U.length),(4,.msl kk k0 (n-k0) 1),(5,.int .i64 q)]),
 Goes cfg a125 k125_1 T ⟨B0.set kk (C.map .str),[],[]⟩ (RetC kk n B0 (U++uqG prev post)):=by
 intro post
 induction post with
 |nil=>
  intro q m prev U C hm hq hC hU hd hl T hT
  have hlen:n-(m-1)=1:=by
   have:=congrArg List.length hd
   simpa[hC]using this
  have hk:(B0.set kk (C.map AV.str))[kk]?=some (C.map .str):=by rw[List.getElem?_set_self hk0]
  have c1:binA .lss (.int .i64 (q:Nat)) (.int .i64 ((n-k0:Nat):Int))=some (.bool false):=lssF (by omega)
  have s1:sliceA 1 (.msl kk 0 n 1) (some (.int .i64 (U.length:Nat))) none none=some (.msl kk U.length (n-U.length) 1):=by
   simp only[sliceA,sliceM,boundA]
   rw[if_neg (by omega)]
   rw[if_pos ⟨by omega,by omega⟩]
   simp only[Int.toNat_natCast]
   rw[if_pos (by omega)]
   simp
  have s2:sliceA 1 (.msl kk 0 n 1) none (some (.int .i64 (U.length:Nat))) none=some (.msl kk 0 U.length 1):=by
   simp only[sliceA,sliceM,boundA]
   rw[if_neg (by omega)]
   rw[if_pos ⟨by omega,by omega⟩]
   simp only[Int.toNat_natCast]
   rw[if_pos (by omega)]
   simp
  have cl:Does cfg (.clearM [.str []] (.c (.msl kk U.length (n-U.length) 1))) ⟨B0.set kk (C.map .str),[],[]⟩ (.tuple []) ⟨B0.set kk ((U++List.replicate (n-U.length) []).map .str),[],[]⟩:=fun T=>by
   have e0:(List.replicate (n-U.length) [AV.str []]).flatten=List.replicate (n-U.length) (.str []):=by
    generalize n-U.length=j
    induction j with
    |zero=>rfl
    |succ j ih=>rw[List.replicate_succ,List.flatten_cons,ih];rfl
   have:clearA [.str []] ⟨B0.set kk (C.map .str),[],[]⟩ (.msl kk U.length (n-U.length) 1)=some ⟨B0.set kk ((U++List.replicate (n-U.length) []).map .str),[],[]⟩:=by
    simp only[clearA,hk]
    rw[if_pos ⟨by simp[hC];omega,rfl,by omega,by omega,rfl⟩,e0,paste_spec _ _ _ (by simp[hC];omega)]
    simp only[List.set_set]
    congr 3
    rw[←List.map_take,hU,List.drop_eq_nil_of_le (by simp[hC];omega)]
    simp
   simp only[opStep,ev,this]
  exact let ζ1:Heap:={boxes:=B0.set kk (List.map .str (U++List.replicate (n-U.length) [])),toks:=[],loops:=[]:Heap};goG 60 _ hT (.len (show lenA false (.msl kk k0 (n-k0) (1:Nat))=some (.int .i64 (↑(n-k0):Int))from rfl)<|.no (show(decide ((↑q:Int)<(↑(n-k0):Int)))=false from decide_eq_false (by omega))<|.slice (show sliceA (1:Nat) (.msl kk (0:Nat) n (1:Nat)) (some (.int .i64 (↑U.length))) none none=some (.msl kk U.length (n-U.length) (1:Nat))from s1)<|.effY (show Does cfg (.clearM [.str []] (.c (.msl kk U.length (n-U.length) (1:Nat)))) {boxes:=B0.set kk (List.map .str C),toks:=[],loops:=[]:Heap} (.tuple []) ζ1 from cl)<|.slice (show sliceA (1:Nat) (.msl kk (0:Nat) n (1:Nat)) none (some (.int .i64 (↑U.length))) none=some (.msl kk (0:Nat) U.length (1:Nat))from s2)<|.fin ((.ret (.msl kk (0:Nat) U.length (1:Nat)),ζ1)) (by exact⟨U.length,U++List.replicate (n-U.length) [],rfl,by simp[uqG],by simp,by simp;omega⟩)) (by kernel_rfl)
 |cons y post ih=>
  intro q m prev U C hm hq hC hU hd hl T hT
  have hlen:n-(m-1)=post.length+2:=by
   have:=congrArg List.length hd
   simpa[hC]using this
  have hk:(B0.set kk (C.map AV.str))[kk]?=some (C.map .str):=by rw[List.getElem?_set_self hk0]
  have c1:binA .lss (.int .i64 (q:Nat)) (.int .i64 ((n-k0:Nat):Int))=some (.bool true):=lssT (by omega)
  have hprev:C[k0+(q-1)]?=some prev:=by
   have:=drop_at hd
   rwa [show m-1=k0+(q-1)by omega]at this
  have hd1:C.drop m=y::post:=by
   have:=drop_next hd
   rwa [show m-1+1=m by omega]at this
  have hy:C[k0+q]?=some y:=by rw[←hm];exact drop_at hd1
  obtain⟨q,rfl⟩:∃p,q=p+1:=⟨q-1,by omega⟩
  have i1:idxA 1 (.msl kk k0 (n-k0) 1) (.int .i64 ((q+1:Nat):Int))=some (.ptr kk (k0+(q+1))):=by
   have:=idx_msl (k:=kk) (off:=k0) (n:=n-k0) (es:=1) (q:=.i64) (i:=q+1) (by omega)
   rwa [Nat.mul_one]at this
  have i2:idxA 1 (.msl kk k0 (n-k0) 1) (.int .i64 (q:Nat))=some (.ptr kk (k0+q)):=by
   have:=idx_msl (k:=kk) (off:=k0) (n:=n-k0) (es:=1) (q:=.i64) (i:=q) (by omega)
   rwa [Nat.mul_one]at this
  have l1:=does_load1 (tk:=[]) (ls:=[]) hk hy
  rw[Nat.add_sub_cancel]at hprev
  have l2:=does_load1 (tk:=[]) (ls:=[]) hk hprev
  have d1:=dec_i (i:=q) (by omega)
  by_cases e:y=prev
  ·have hg:uqG prev (y::post)=uqG prev post:=by simp[uqG,e]
   rw[hg]
   have n1:binA .neq (.str y) (.str prev)=some (.bool false):=strNeF e
   have ih':=ih (q+1+1) (m+1) prev U C (by omega) (by omega) hC hU (by rw[Nat.add_sub_cancel,hd1,e]) (by omega)
   exact let ζ1:Heap:={boxes:=B0.set kk (List.map .str C),toks:=[],loops:=[]:Heap};goG 90 _ hT (.len (show lenA false (.msl kk k0 (n-k0) (1:Nat))=some (.int .i64 (↑(n-k0):Int))from rfl)<|.yes (show(decide ((↑(q+(1:Nat)):Int)<(↑(n-k0):Int)))=true from decide_eq_true (by omega))<|.idx (show idxA 1 (.msl kk k0 (n-k0) (1:Nat)) (.int .i64 (↑(q+(1:Nat)):Int))=some (.ptr kk (k0+(q+(1:Nat))))from i1)<|.effY (show Does cfg (.load false (1:Nat) (.c (.ptr kk (k0+(q+(1:Nat)))))) ζ1 (.str y) ζ1 from l1)<|.bin (show binA .sub (.int .i64 (↑(q+(1:Nat)):Int)) (.int .i64 1)=some (.int .i64 ↑q)from d1)<|.idx (show idxA 1 (.msl kk k0 (n-k0) (1:Nat)) (.int .i64 ↑q)=some (.ptr kk (k0+q))from i2)<|.effY (show Does cfg (.load false (1:Nat) (.c (.ptr kk (k0+q)))) ζ1 (.str prev) ζ1 from l2)<|.no (show(!y==prev)=false from by have hh:(y==prev)=true:=(by simpa using e);simp[hh])<|.bin (show binA .add (.int .i64 (↑(q+(1:Nat)):Int)) (.int .i64 1)=some (.int .i64 (↑(q+(1:Nat)+(1:Nat)):Int))from inc_i (by omega))<|.cutQ k125_1 [(0,.msl kk (0:Nat) n (1:Nat)),(3,.int .i64 (↑U.length)),(4,.msl kk k0 (n-k0) (1:Nat)),(5,.int .i64 (↑(q+(1:Nat)+(1:Nat)):Int))] (ζ1) (fun T hT=>(ih' T hT))) (by kernel_rfl)
  ·have hg:uqG prev (y::post)=y::uqG y post:=by simp[uqG,e]
   rw[hg]
   have n1:binA .neq (.str y) (.str prev)=some (.bool true):=strNeT e
   have i3:idxA 1 (.msl kk 0 n 1) (.int .i64 (U.length:Nat))=some (.ptr kk U.length):=by
    have:=idx_msl (k:=kk) (off:=0) (n:=n) (es:=1) (q:=.i64) (i:=U.length) (by omega)
    rwa [Nat.mul_one,Nat.zero_add]at this
   have st:=does_store1 (tk:=[]) (ls:=[]) y hk (m:=U.length) (by omega)
   rw[List.set_set]at st
   have ih':=ih (q+1+1) (m+1) y (U++[y]) (C.set U.length y) (by omega) (by omega) (by simp[hC]) (by
    rw[List.length_append,List.length_singleton,List.take_add_one,List.getElem?_set_self (by omega),List.take_set_of_le (Nat.le_refl _),hU]
    rfl) (by
    rw[Nat.add_sub_cancel,List.drop_set_of_lt (by omega),hd1]) (by simp;omega)
   rw[List.append_assoc]at ih'
   have el:((U++[y]).length:Int)=((U.length+1:Nat):Int):=by simp
   rw[el]at ih'
   have inc:=inc_i (i:=U.length) (by omega)
   exact let ζ1:Heap:={boxes:=B0.set kk (List.map .str C),toks:=[],loops:=[]:Heap};let ζ2:Heap:={boxes:=B0.set kk (List.map .str (C.set U.length y)),toks:=[],loops:=[]:Heap};goG 90 _ hT (.len (show lenA false (.msl kk k0 (n-k0) (1:Nat))=some (.int .i64 (↑(n-k0):Int))from rfl)<|.yes (show(decide ((↑(q+(1:Nat)):Int)<(↑(n-k0):Int)))=true from decide_eq_true (by omega))<|.idx (show idxA 1 (.msl kk k0 (n-k0) (1:Nat)) (.int .i64 (↑(q+(1:Nat)):Int))=some (.ptr kk (k0+(q+(1:Nat))))from i1)<|.effY (show Does cfg (.load false (1:Nat) (.c (.ptr kk (k0+(q+(1:Nat)))))) ζ1 (.str y) ζ1 from l1)<|.bin (show binA .sub (.int .i64 (↑(q+(1:Nat)):Int)) (.int .i64 1)=some (.int .i64 ↑q)from d1)<|.idx (show idxA 1 (.msl kk k0 (n-k0) (1:Nat)) (.int .i64 ↑q)=some (.ptr kk (k0+q))from i2)<|.effY (show Does cfg (.load false (1:Nat) (.c (.ptr kk (k0+q)))) ζ1 (.str prev) ζ1 from l2)<|.yes (show(!y==prev)=true from by have hh:¬((y==prev)=true):=(by simpa using e);simp[hh])<|.idx (show idxA 1 (.msl kk k0 (n-k0) (1:Nat)) (.int .i64 (↑(q+(1:Nat)):Int))=some (.ptr kk (k0+(q+(1:Nat))))from i1)<|.effY (show Does cfg (.load false (1:Nat) (.c (.ptr kk (k0+(q+(1:Nat)))))) ζ1 (.str y) ζ1 from l1)<|.idx (show idxA 1 (.msl kk (0:Nat) n (1:Nat)) (.int .i64 (↑U.length))=some (.ptr kk U.length)from i3)<|.effY (show Does cfg (.store (1:Nat) (.c (.ptr kk U.length)) (.c (.str y))) ζ1 .undef ζ2 from st)<|.bin (show binA .add (.int .i64 (↑U.length)) (.int .i64 1)=some (.int .i64 (↑(U.length+(1:Nat)):Int))from inc)<|.bin (show binA .add (.int .i64 (↑(q+(1:Nat)):Int)) (.int .i64 1)=some (.int .i64 (↑(q+(1:Nat)+(1:Nat)):Int))from inc_i (by omega))<|.cutQ k125_1 [(0,.msl kk (0:Nat) n (1:Nat)),(3,.int .i64 (↑(U.length+(1:Nat)):Int)),(4,.msl kk k0 (n-k0) (1:Nat)),(5,.int .i64 (↑(q+(1:Nat)+(1:Nat)):Int))] (ζ2) (fun T hT=>(ih' T hT))) (by kernel_rfl)
theorem compact_loop1(hn:n<9223372036854775807)(hk0:kk<B0.length):∀(post:List (List UInt8))(m:Nat)(prev:List UInt8)(C:List (List UInt8))(hm:1≤m)(hC:C.length=n)(hd:C.drop (m-1)=prev::post)(hu:uq C=C.take m++uqG prev post)(T:Env)
 (hT:Has T [(0,.msl kk 0 n 1),(3,.int .i64 m)]),
 Goes cfg a125 k125_0 T ⟨B0.set kk (C.map .str),[],[]⟩ (RetC kk n B0 (uq C)):=by
 intro post
 induction post with
 |nil=>
  intro m prev C hm hC hd hu T hT
  have hlen:n-(m-1)=1:=by
   have:=congrArg List.length hd
   simpa[hC]using this
  have c1:binA .lss (.int .i64 (m:Nat)) (.int .i64 (n:Nat))=some (.bool false):=lssF (by omega)
  have e:uq C=C:=by
   rw[hu,List.take_of_length_le (by omega)];simp[uqG]
  rw[e]
  exact goG 60 _ hT (.len (show lenA false (.msl kk (0:Nat) n (1:Nat))=some (.int .i64 ↑n)from rfl)<|.no (show(decide ((↑m:Int)<(↑n:Int)))=false from decide_eq_false (by omega))<|.fin ((.ret (.msl kk (0:Nat) n (1:Nat)),{boxes:=B0.set kk (List.map .str C),toks:=[],loops:=[]:Heap})) (by exact⟨n,C,rfl,List.take_of_length_le (by omega),by omega,hC⟩)) (by kernel_rfl)
 |cons y post ih=>
  intro m prev C hm hC hd hu T hT
  have hlen:n-(m-1)=post.length+2:=by
   have:=congrArg List.length hd
   simpa[hC]using this
  have hk:(B0.set kk (C.map AV.str))[kk]?=some (C.map .str):=by rw[List.getElem?_set_self hk0]
  have c1:binA .lss (.int .i64 (m:Nat)) (.int .i64 (n:Nat))=some (.bool true):=lssT (by omega)
  have hprev:C[m-1]?=some prev:=drop_at hd
  have hd1:C.drop m=y::post:=by
   have:=drop_next hd
   rwa [show m-1+1=m by omega]at this
  have hy:C[m]?=some y:=drop_at hd1
  obtain⟨q,rfl⟩:∃p,m=p+1:=⟨m-1,by omega⟩
  have i1:idxA 1 (.msl kk 0 n 1) (.int .i64 ((q+1:Nat):Int))=some (.ptr kk (q+1)):=by
   have:=idx_msl (k:=kk) (off:=0) (n:=n) (es:=1) (q:=.i64) (i:=q+1) (by omega)
   rwa [Nat.mul_one,Nat.zero_add]at this
  have i2:idxA 1 (.msl kk 0 n 1) (.int .i64 (q:Nat))=some (.ptr kk q):=by
   have:=idx_msl (k:=kk) (off:=0) (n:=n) (es:=1) (q:=.i64) (i:=q) (by omega)
   rwa [Nat.mul_one,Nat.zero_add]at this
  have l1:=does_load1 (tk:=[]) (ls:=[]) hk hy
  rw[Nat.add_sub_cancel]at hprev
  have l2:=does_load1 (tk:=[]) (ls:=[]) hk hprev
  have d1:=dec_i (i:=q) (by omega)
  by_cases e:y=prev
  ·have n1:binA .eql (.str y) (.str prev)=some (.bool true):=strEqT e
   have hg:uqG prev (y::post)=uqG prev post:=by simp[uqG,e]
   have s1:sliceA 1 (.msl kk 0 n 1) (some (.int .i64 ((q+1:Nat):Int))) none none=some (.msl kk (q+1) (n-(q+1)) 1):=by
    simp only[sliceA,sliceM,boundA]
    rw[if_neg (by omega)]
    rw[if_pos ⟨by omega,by omega⟩]
    simp only[Int.toNat_natCast]
    rw[if_pos (by omega)]
    simp
   have h2:=compact_loop2 kk n B0 hn hk0 (q+1) (by omega) post 1 (q+1+1) prev (C.take (q+1)) C rfl (by omega) hC (by simp[List.take_take]) (by rw[Nat.add_sub_cancel,hd1,e]) (by simp;omega)
   have el:((C.take (q+1)).length:Int)=((q+1:Nat):Int):=by
    rw[List.length_take,Nat.min_eq_left (by omega)]
   rw[el,←hg,←hu]at h2
   exact let ζ1:Heap:={boxes:=B0.set kk (List.map .str C),toks:=[],loops:=[]:Heap};goG 90 _ hT (.len (show lenA false (.msl kk (0:Nat) n (1:Nat))=some (.int .i64 ↑n)from rfl)<|.yes (show(decide ((↑(q+(1:Nat)):Int)<(↑n:Int)))=true from decide_eq_true (by omega))<|.idx (show idxA 1 (.msl kk (0:Nat) n (1:Nat)) (.int .i64 (↑(q+(1:Nat)):Int))=some (.ptr kk (q+(1:Nat)))from i1)<|.effY (show Does cfg (.load false (1:Nat) (.c (.ptr kk (q+(1:Nat))))) ζ1 (.str y) ζ1 from l1)<|.bin (show binA .sub (.int .i64 (↑(q+(1:Nat)):Int)) (.int .i64 1)=some (.int .i64 ↑q)from d1)<|.idx (show idxA 1 (.msl kk (0:Nat) n (1:Nat)) (.int .i64 ↑q)=some (.ptr kk q)from i2)<|.effY (show Does cfg (.load false (1:Nat) (.c (.ptr kk q))) ζ1 (.str prev) ζ1 from l2)<|.yes (show(y==prev)=true from(by simpa using e))<|.slice (show sliceA (1:Nat) (.msl kk (0:Nat) n (1:Nat)) (some (.int .i64 (↑(q+(1:Nat)):Int))) none none=some (.msl kk (q+(1:Nat)) (n-(q+(1:Nat))) (1:Nat))from s1)<|.cutQ k125_1 [(0,.msl kk (0:Nat) n (1:Nat)),(3,.int .i64 (↑(q+(1:Nat)):Int)),(4,.msl kk (q+(1:Nat)) (n-(q+(1:Nat))) (1:Nat)),(5,.int .i64 1)] (ζ1) (fun T hT=>(h2 T hT))) (by kernel_rfl)
  ·have n1:binA .eql (.str y) (.str prev)=some (.bool false):=strEqF e
   have hg:uqG prev (y::post)=y::uqG y post:=by simp[uqG,e]
   have ih':=ih (q+1+1) y C (by omega) hC (by rw[Nat.add_sub_cancel,hd1]) (by
    rw[hu,hg,List.take_add_one (i:=q+1),hy];simp)
   exact let ζ1:Heap:={boxes:=B0.set kk (List.map .str C),toks:=[],loops:=[]:Heap};goG 90 _ hT (.len (show lenA false (.msl kk (0:Nat) n (1:Nat))=some (.int .i64 ↑n)from rfl)<|.yes (show(decide ((↑(q+(1:Nat)):Int)<(↑n:Int)))=true from decide_eq_true (by omega))<|.idx (show idxA 1 (.msl kk (0:Nat) n (1:Nat)) (.int .i64 (↑(q+(1:Nat)):Int))=some (.ptr kk (q+(1:Nat)))from i1)<|.effY (show Does cfg (.load false (1:Nat) (.c (.ptr kk (q+(1:Nat))))) ζ1 (.str y) ζ1 from l1)<|.bin (show binA .sub (.int .i64 (↑(q+(1:Nat)):Int)) (.int .i64 1)=some (.int .i64 ↑q)from d1)<|.idx (show idxA 1 (.msl kk (0:Nat) n (1:Nat)) (.int .i64 ↑q)=some (.ptr kk q)from i2)<|.effY (show Does cfg (.load false (1:Nat) (.c (.ptr kk q))) ζ1 (.str prev) ζ1 from l2)<|.no (show(y==prev)=false from Bool.eq_false_iff.2 (by simpa using e))<|.bin (show binA .add (.int .i64 (↑(q+(1:Nat)):Int)) (.int .i64 1)=some (.int .i64 (↑(q+(1:Nat)+(1:Nat)):Int))from inc_i (by omega))<|.cutQ k125_0 [(0,.msl kk (0:Nat) n (1:Nat)),(3,.int .i64 (↑(q+(1:Nat)+(1:Nat)):Int))] (ζ1) (fun T hT=>(ih' T hT))) (by kernel_rfl)
theorem compact_any(hn:n<9223372036854775807)(hk0:kk<B0.length)(C:List (List UInt8))(hC:C.length=n)(h0:0<n):
 ∃(m:Nat)(C':List (List UInt8)),Does cfg (.callM (.c (.func 125 [])) [.c (.msl kk 0 n 1)]) ⟨B0.set kk (C.map .str),[],[]⟩ (.msl kk 0 m 1) ⟨B0.set kk (C'.map .str),[],[]⟩∧C'.take m=uq C∧m≤C'.length∧C'.length=n:=by
 have key:Goes cfg a125 [.c c125] (initEnv [.msl kk 0 n 1]) ⟨B0.set kk (C.map .str),[],[]⟩ (RetC kk n B0 (uq C)):=by
  by_cases h2:n<2
  ·obtain⟨x,rfl⟩:∃x,C=[x]:=by
    match C,hC with
    |[x],_=>exact⟨x,rfl⟩
    |[],h=>simp at h;omega
    |_::_::_,h=>simp at h;omega
   exact goG 60 [] trivial (.len (show lenA false (.msl kk (0:Nat) n (1:Nat))=some (.int .i64 ↑n)from rfl)<|.yes (show(decide ((↑n:Int)<(2:Int)))=true from decide_eq_true (by omega))<|.fin ((.ret (.msl kk (0:Nat) n (1:Nat)),{boxes:=B0.set kk (List.map .str [x]),toks:=[],loops:=[]:Heap})) (by exact⟨n,[x],rfl,by simp at hC;subst hC;rfl,by simpa using Nat.le_of_eq hC.symm,hC⟩)) (by kernel_rfl)
  ·obtain⟨x,l,rfl⟩:∃x l,C=x::l:=by
    cases C with
    |nil=>simp at hC;omega
    |cons x l=>exact⟨x,l,rfl⟩
   have h1:=compact_loop1 kk n B0 hn hk0 l 1 x (x::l) (by omega) hC rfl rfl
   exact goG 60 [] trivial (.len (show lenA false (.msl kk (0:Nat) n (1:Nat))=some (.int .i64 ↑n)from rfl)<|.no (show(decide ((↑n:Int)<(2:Int)))=false from decide_eq_false (by omega))<|.cutQ k125_0 [(0,.msl kk (0:Nat) n (1:Nat)),(3,.int .i64 1)] ({boxes:=B0.set kk (List.map .str (x::l)),toks:=[],loops:=[]:Heap}) (fun T hT=>(h1 T hT))) (by kernel_rfl)
 obtain⟨r,h,m,C',rfl,h1,h2,h3⟩:=key
 refine⟨m,C',?_,h1,h2,h3⟩
 have h':lim cfg (.fn 125) [.msl kk 0 n 1] ⟨B0.set kk (C.map .str),[],[]⟩=some (.ret (.msl kk 0 m 1),⟨B0.set kk (C'.map .str),[],[]⟩):=by rw[l125];exact h
 have hd:=does_callM (xs:=[.msl kk 0 n 1]) h' rfl rfl
 rwa [show shutA (.msl kk 0 m 1)=.msl kk 0 m 1 from rfl,trunc_len (by simp)]at hd
end
end Go.Aa.T
set_option linter.unusedVariables false
set_option linter.unusedSimpArgs false
set_option maxRecDepth 100000
namespace Go.Aa.T
open Go.Aa Go.Proofs
def encV(v:List Amount):AV:=.sl .sh (v.map encA)
def allNames(vs:List (List Amount)):List (List UInt8):=vs.flatMap fun v=>v.map Amount.name
theorem allNames_cons(v:List Amount)(vs:List (List Amount)):allNames (v::vs)=v.map Amount.name++allNames vs:=rfl
def rM(kk:Nat):List (List UInt8)→AV
 |[]=>.sl .full []
 |_::l=>.msl kk 0 (l.length+1) 1
theorem strsA_map:∀l:List (List UInt8),strsA (l.map .str)=some l
 |[]=>rfl
 |s::l=>by simp[strsA,strsA_map l]
theorem sort_does{kk:Nat}{B:List (List AV)}{l:List (List UInt8)}(hk:B[kk]?=some (l.map .str))(h0:0<l.length)(hb:l.length≤140737488355328):
 Does cfg (.callM (.c (.func 124 [])) [.c (.msl kk 0 l.length 1)]) ⟨B,[],[]⟩ (.tuple []) ⟨B.set kk ((isort l).map .str),[],[]⟩:=by
 have h:lim cfg (.fn 124) [.msl kk 0 l.length 1] ⟨B,[],[]⟩=some (.ret (.tuple []),⟨B.set kk ((isort l).map .str),[],[]⟩):=by
  rw[lim_ext (g:=sortE) rfl rfl]
  have e:sortE [.msl kk 0 l.length 1] ⟨B,[],[]⟩=some (.tuple [],⟨B.set kk ((isort l).map .str),[],[]⟩):=by
   simp only[sortE,hk]
   rw[if_pos ⟨trivial,trivial,h0,by simp,hb⟩,List.take_of_length_le (by simp),strsA_map,List.drop_eq_nil_of_le (by simp)]
   simp
  rw[e];rfl
 have hd:=does_callM (xs:=[.msl kk 0 l.length 1]) h rfl rfl
 rwa [show shutA (.tuple [])=.tuple []from rfl,trunc_len (by simp)]at hd
theorem does_data{g:FuncId}{xs:List AV}{v:AV}(h:Gives cfg g xs v)(zs:List AV)(hx:zs.map shutA=xs)(hd:xs.all isData=true)(h1:shutA v=v)(h2:isData v=true)(H:Heap):
 Does cfg (.call (.c (.func g [])) (zs.map .c)) H v H∧Does cfg (.callM (.c (.func g [])) (zs.map .c)) H v H:=by
 obtain⟨H',h⟩:=h.ret
 constructor<;>intro T
 ·have e:(zs.map Opd.c).map (fun x=>shutA (ev T x))=xs:=by rw[List.map_map];exact hx
  simp only[opStep,e]
  rw[show ev T (.c (.func g []))=.func g []from rfl]
  simp only[callV,hd,List.all_nil,Bool.and_self,if_true,List.append_nil,h,dataOut,h1,h2]
 ·have e:(zs.map Opd.c).map (fun x=>shutA (ev T x))=xs:=by rw[List.map_map];exact hx
  simp only[opStep,e]
  rw[show ev T (.c (.func g []))=.func g []from rfl]
  simp only[callW,hd,List.all_nil,Bool.and_self,if_true,List.append_nil,h,h1,h2]
theorem sort_none:Gives cfg 124 [.sl .sh []] (.tuple []):=by
 have h:lim cfg (.fn 124) [.sl .sh []] Heap.nil=some (.ret (.tuple []),Heap.nil):=by rw[lim_ext (g:=sortE) rfl rfl];rfl
 exact Gives.of h
theorem compact_none:Gives cfg 125 [.sl .sh []] (.sl .sh []):=by
 refine Gives.run (l125 _ _) ?_
 exact goG 60 [] trivial (.len (show lenA false (.sl .sh [])=some (.int .i64 (↑[].length:Int))from len_sl _ _)<|.tt<|.fin ((.ret (.sl .sh []),{boxes:=[],toks:=[],loops:=[]:Heap})) rfl) (by kernel_rfl)
def FinN(acc:List (List UInt8)):ARes×Heap→Prop:=IsOut (.sl .sh ((namesOf acc).map .str))
theorem names_end(vs:List (List Amount))(acc:List (List UInt8))(B:List (List AV))(kk:Nat)(hB:acc=[]∨B[kk]?=some (acc.map .str))(hl:acc.length≤100000)(T:Env)(i:Nat)(hi:vs.length≤i)
 (hT:Has T [(3,rM kk acc),(8,.sl .sh (vs.map encV)),(9,.int .i64 vs.length),(10,.int .i64 i)]):Goes cfg a99 k99_0 T ⟨B,[],[]⟩ (FinN acc):=by
 cases acc with
 |nil=>
  have h1:=(does_data sort_none [.sl .full []] rfl rfl rfl rfl ⟨B,[],[]⟩).2
  have h2:=(does_data compact_none [.sl .full []] rfl rfl rfl rfl ⟨B,[],[]⟩).2
  exact let ζ1:Heap:={boxes:=B,toks:=[],loops:=[]:Heap};goG 60 _ hT (.no (show(decide ((↑i:Int)<(↑vs.length:Int)))=false from decide_eq_false (by omega))<|.effY (show Does cfg (.callM (.c (.func (124:FuncId) [])) (List.map .c [.sl .full []])) ζ1 (.tuple []) ζ1 from h1)<|.effY (show Does cfg (.callM (.c (.func (125:FuncId) [])) (List.map .c [.sl .full []])) ζ1 (.sl .sh []) ζ1 from h2)<|.fin ((.ret (.sl .sh []),ζ1)) (by exact⟨_,rfl,rfl⟩)) (by kernel_rfl)
 |cons x l=>
  have hk:B[kk]?=some ((x::l).map .str):=by simpa using hB
  have h1:=sort_does hk (by simp) (by omega)
  have hkl:kk<B.length:=(List.getElem?_eq_some_iff.1 hk).1
  obtain⟨m,C,h2,h3,h4,h5⟩:=compact_any kk (x::l).length B (by omega) hkl (isort (x::l)) (isort_length _) (by simp)
  rw[List.length_cons]at h1 h2 h5
  have hout:dataOut ⟨B.set kk (C.map .str),[],[]⟩ (.msl kk 0 m 1)=some (.sl .sh ((namesOf (x::l)).map .str)):=by
   have:=out_box1 (bs:=B.set kk (C.map .str)) (tk:=[]) (ls:=[]) (kk:=kk) (n:=m) (List.getElem?_set_self hkl) (by simpa using h4) (strs_data C)
   rw[this,←List.map_take,h3];rfl
  exact let ζ1:Heap:={boxes:=B.set kk (List.map .str (isort (x::l))),toks:=[],loops:=[]:Heap};let ζ2:Heap:={boxes:=B.set kk (List.map .str C),toks:=[],loops:=[]:Heap};goG 60 _ hT (.no (show(decide ((↑i:Int)<(↑vs.length:Int)))=false from decide_eq_false (by omega))<|.effY (show Does cfg (.callM (.c (.func (124:FuncId) [])) [.c (.msl kk (0:Nat) (l.length+(1:Nat)) (1:Nat))]) {boxes:=B,toks:=[],loops:=[]:Heap} (.tuple []) ζ1 from h1)<|.effY (show Does cfg (.callM (.c (.func (125:FuncId) [])) [.c (.msl kk (0:Nat) (l.length+(1:Nat)) (1:Nat))]) ζ1 (.msl kk (0:Nat) m (1:Nat)) ζ2 from h2)<|.fin ((.ret (.msl kk (0:Nat) m (1:Nat)),ζ2)) (by exact⟨_,rfl,hout⟩)) (by kernel_rfl)
theorem names_outer(vs:List (List Amount))(hv:vs.length≤100)(hs:∀v∈vs,v.length≤100):∀(post:List (List Amount))(i:Nat)(hd:vs.drop i=post)(hi:i≤vs.length)(acc:List (List UInt8))(B:List (List AV))(kk:Nat)(hB:acc=[]∨B[kk]?=some (acc.map .str))(hl:acc.length≤100*i)(T:Env)
 (hT:Has T [(3,rM kk acc),(8,.sl .sh (vs.map encV)),(9,.int .i64 vs.length),(10,.int .i64 i)]),Goes cfg a99 k99_0 T ⟨B,[],[]⟩ (FinN (acc++allNames post)):=by
 intro post
 induction post with
 |nil=>
  intro i hd hi acc B kk hB hl T hT
  have hge:=drop_ge hd
  rw[show acc++allNames []=acc by simp[allNames]]
  exact names_end vs acc B kk hB (by omega) T i hge hT
 |cons v post ih=>
  intro i hd hi acc B kk hB hl T hT
  have hlt:=drop_lt hd
  have hnx:=drop_next hd
  have hvl:=hs v (drop_mem hd)
  have hix:idxA 1 (.sl .sh (vs.map encV)) (.int .i64 (i:Nat))=some (.ref [encV v]):=idx_row (f:=encV) hd rfl
  have inner:∀(ip:List Amount)(j:Nat)(hj:v.drop j=ip)(hj0:j≤v.length)(acc:List (List UInt8))(B:List (List AV))(kk:Nat)(hB:acc=[]∨B[kk]?=some (acc.map .str))(hl:acc.length≤100*i+j)(T:Env)
   (hT:Has T [(3,rM kk acc),(8,.sl .sh (vs.map encV)),(9,.int .i64 vs.length),(10,.int .i64 i),(14,encV v),(15,.int .i64 v.length),(16,.int .i64 j)]),Goes cfg a99 k99_1 T ⟨B,[],[]⟩ (FinN (acc++(ip.map Amount.name++allNames post))):=by
   intro ip
   induction ip with
   |nil=>
    intro j hj hj0 acc B kk hB hl T hT
    have hge:=drop_ge hj
    have ih':=ih (i+1) hnx hlt acc B kk hB (by omega)
    rw[List.map_nil,List.nil_append]
    exact goG 60 _ hT (.no (show(decide ((↑j:Int)<(↑v.length:Int)))=false from decide_eq_false (by omega))<|.bin (show binA .add (.int .i64 ↑i) (.int .i64 1)=some (.int .i64 (↑(i+1)))from inc_i (by omega))<|.cutQ k99_0 [(3,rM kk acc),(8,.sl .sh (vs.map encV)),(9,.int .i64 (↑vs.length)),(10,.int .i64 (↑(i+1)))] ({boxes:=B,toks:=[],loops:=[]:Heap}) (fun T hT=>(ih' T hT))) (by kernel_rfl)
   |cons x ip ihj=>
    intro j hj hj0 acc B kk hB hl T hT
    have hltj:=drop_lt hj
    have hnxj:=drop_next hj
    have hxi:idxA 2 (encV v) (.int .i64 (j:Nat))=some (.ref [.str x.name,.int .i64 x.n]):=idx_row (f:=encA) hj rfl
    have e:acc++((x::ip).map Amount.name++allNames post)=(acc++[x.name])++(ip.map Amount.name++allNames post):=by simp
    rw[e]
    cases acc with
    |nil=>
     have ap:=does_newB (es:=1) (b:=16) (B:=B++[(encA x).cells]) (tk:=[]) (ls:=[]) (v:=.str x.name) (sk:=.full) rfl rfl (by omega)
     have ih':=ihj (j+1) hnxj hltj [x.name] (B++[(encA x).cells]++[[AV.str x.name]]) (B++[(encA x).cells]).length (.inr (by simp)) (by simp;omega)
     exact let ζ1:Heap:={boxes:=B++[[AV.str x.name,.int .i64 x.n]],toks:=[],loops:=[]:Heap};goG 90 _ hT (.yes (show(decide ((↑j:Int)<(↑v.length:Int)))=true from decide_eq_true (by omega))<|.idx (show idxA 2 (.sl .sh (v.map encA)) (.int .i64 ↑j)=some (.ref [.str x.name,.int .i64 x.n])from hxi)<|.load (show loadA true 2 {boxes:=B,toks:=[],loops:=[]:Heap} (.ref [.str x.name,.int .i64 x.n])=some (.agg [.str x.name,.int .i64 x.n])from rfl)<|.store (show storeA 2 {boxes:=B++[[AV.str [],.int .i64 0]],toks:=[],loops:=[]:Heap} (.ptr B.length (0:Nat)) (.agg [.str x.name,.int .i64 x.n])=some (ζ1)from store_box2 (cs:=[.str [],.int .i64 0]) (cs':=[.str x.name,.int .i64 x.n]) (by simp+zetaDelta) rfl (by simp+zetaDelta [List.set_append]))<|.load (show loadA false 1 ζ1 (.ptr B.length (0:Nat))=some (.str x.name)from load_box (cs:=[.str x.name,.int .i64 x.n]) (by simp+zetaDelta) rfl)<|.effY (show Does cfg (.appendM (1:Nat) (16:Nat) (.c (.sl .full [])) (.c (.sl .full [.str x.name]))) {boxes:=B++[(encA x).cells],toks:=[],loops:=[]:Heap} (.msl (B++[(encA x).cells]).length (0:Nat) (1:Nat) (1:Nat)) {boxes:=B++[(encA x).cells]++[(AV.str x.name).cells],toks:=[],loops:=[]:Heap}from ap)<|.bin (show binA .add (.int .i64 ↑j) (.int .i64 1)=some (.int .i64 (↑(j+(1:Nat)):Int))from inc_i (by omega))<|.cutQ k99_1 [(3,.msl (B++[[AV.str x.name,.int .i64 x.n]]).length (0:Nat) (1:Nat) (1:Nat)),(8,.sl .sh (vs.map encV)),(9,.int .i64 (↑vs.length)),(10,.int .i64 ↑i),(14,.sl .sh (v.map encA)),(15,.int .i64 (↑v.length)),(16,.int .i64 (↑(j+(1:Nat)):Int))] ({boxes:=B++[[AV.str x.name,.int .i64 x.n]]++[[AV.str x.name]],toks:=[],loops:=[]:Heap}) (fun T hT=>(ih' T hT))) (by kernel_rfl)
    |cons y l=>
     have hk:B[kk]?=some ((y::l).map .str):=by simpa using hB
     have hk2:(B++[(encA x).cells])[kk]?=some ((y::l).map .str):=by rw[List.getElem?_append_left (List.getElem?_eq_some_iff.1 hk).1,hk]
     have ap:=does_growB (es:=1) (b:=16) (n:=l.length+1) (tk:=[]) (ls:=[]) (v:=.str x.name) (sk:=.full) hk2 (by simp) (by omega) (strs_data _) rfl rfl (by simp at hl;omega)
     obtain⟨D,hD⟩:∃D,D=(y::l).map AV.str++(AV.str x.name).cells:=⟨_,rfl⟩
     rw[←hD]at ap
     have ih':=ihj (j+1) hnxj hltj ((y::l)++[x.name]) ((B++[(encA x).cells]).set kk []++[D]) (B++[(encA x).cells]).length (.inr (by
      rw[List.getElem?_append_right (by simp),hD];simp[AV.cells])) (by simp at hl⊢;omega)
     have er:rM (B++[(encA x).cells]).length ((y::l)++[x.name])=.msl (B++[(encA x).cells]).length 0 (l.length+1+1) 1:=by simp[rM]
     rw[er]at ih'
     exact let ζ1:Heap:={boxes:=(B++[(encA x).cells]).set kk []++[D],toks:=[],loops:=[]:Heap};let ζ2:Heap:={boxes:=B++[[AV.str x.name,.int .i64 x.n]],toks:=[],loops:=[]:Heap};goG 90 _ hT (.yes (show(decide ((↑j:Int)<(↑v.length:Int)))=true from decide_eq_true (by omega))<|.idx (show idxA 2 (.sl .sh (v.map encA)) (.int .i64 ↑j)=some (.ref [.str x.name,.int .i64 x.n])from hxi)<|.load (show loadA true 2 {boxes:=B,toks:=[],loops:=[]:Heap} (.ref [.str x.name,.int .i64 x.n])=some (.agg [.str x.name,.int .i64 x.n])from rfl)<|.store (show storeA 2 {boxes:=B++[[AV.str [],.int .i64 0]],toks:=[],loops:=[]:Heap} (.ptr B.length (0:Nat)) (.agg [.str x.name,.int .i64 x.n])=some (ζ2)from store_box2 (cs:=[.str [],.int .i64 0]) (cs':=[.str x.name,.int .i64 x.n]) (by simp+zetaDelta) rfl (by simp+zetaDelta [List.set_append]))<|.load (show loadA false 1 ζ2 (.ptr B.length (0:Nat))=some (.str x.name)from load_box (cs:=[.str x.name,.int .i64 x.n]) (by simp+zetaDelta) rfl)<|.effY (show Does cfg (.appendM (1:Nat) (16:Nat) (.c (.msl kk (0:Nat) (l.length+(1:Nat)) (1:Nat))) (.c (.sl .full [.str x.name]))) {boxes:=B++[(encA x).cells],toks:=[],loops:=[]:Heap} (.msl (B++[(encA x).cells]).length (0:Nat) (l.length+(1:Nat)+(1:Nat)) (1:Nat)) ζ1 from ap)<|.bin (show binA .add (.int .i64 ↑j) (.int .i64 1)=some (.int .i64 (↑(j+(1:Nat)):Int))from inc_i (by omega))<|.cutQ k99_1 [(3,.msl (B++[[AV.str x.name,.int .i64 x.n]]).length (0:Nat) (l.length+(1:Nat)+(1:Nat)) (1:Nat)),(8,.sl .sh (vs.map encV)),(9,.int .i64 (↑vs.length)),(10,.int .i64 ↑i),(14,.sl .sh (v.map encA)),(15,.int .i64 (↑v.length)),(16,.int .i64 (↑(j+(1:Nat)):Int))] (ζ1) (fun T hT=>(ih' T hT))) (by kernel_rfl)
  have h2:=inner v 0 rfl (Nat.zero_le _) acc B kk hB (by omega)
  rw[allNames_cons]
  exact let ζ1:Heap:={boxes:=B,toks:=[],loops:=[]:Heap};goG 60 _ hT (.yes (show(decide ((↑i:Int)<(↑vs.length:Int)))=true from decide_eq_true (by omega))<|.idx (show idxA 1 (.sl .sh (vs.map encV)) (.int .i64 ↑i)=some (.ref [encV v])from hix)<|.load (show loadA false 1 ζ1 (.ref [.sl .sh (v.map encA)])=some (.sl .sh (v.map encA))from rfl)<|.len (show lenA false (.sl .sh (v.map encA))=some (.int .i64 (↑v.length))from len_map _)<|.cutQ k99_1 [(3,rM kk acc),(8,.sl .sh (vs.map encV)),(9,.int .i64 (↑vs.length)),(10,.int .i64 ↑i),(14,.sl .sh (v.map encA)),(15,.int .i64 (↑v.length)),(16,.int .i64 0)] (ζ1) (fun T hT=>(h2 T hT))) (by kernel_rfl)
theorem names_any(vs:List (List Amount))(hv:vs.length≤100)(hs:∀v∈vs,v.length≤100):GivesF cfg 99 [.sl .sh (vs.map encV)] (.sl .sh ((namesOf (allNames vs)).map .str)):=by
 refine GivesF.run (l99 _ _) ?_
 have h:=names_outer vs hv hs vs 0 rfl (Nat.zero_le _) [] [] 0 (.inl rfl) (by simp)
 exact goG 60 [] trivial (.len (show lenA false (.sl .sh (vs.map encV))=some (.int .i64 (↑vs.length))from len_map _)<|.cutQ k99_0 [(3,.sl .full []),(8,.sl .sh (vs.map encV)),(9,.int .i64 (↑vs.length)),(10,.int .i64 0)] ({boxes:=[],toks:=[],loops:=[]:Heap}) (fun T hT=>(h T hT))) (by kernel_rfl)
end Go.Aa.T
set_option linter.unusedVariables false
set_option linter.unusedSimpArgs false
set_option maxRecDepth 100000
namespace Go.Aa.T
open Go.Aa Go.Proofs
theorem bl_eq(x y:List UInt8):Op.bytesLess x y=decide (x<y):=bytesLess_eq x y
theorem bl_irrefl(x:List UInt8):Op.bytesLess x x=false:=by rw[bl_eq];simp[List.lt_irrefl]
theorem bl_trans{x y z:List UInt8}(h1:Op.bytesLess x y=true)(h2:Op.bytesLess y z=true):Op.bytesLess x z=true:=by
 rw[bl_eq,decide_eq_true_eq]at h1 h2⊢
 exact List.lt_trans h1 h2
theorem bl_not{x y:List UInt8}(h:(Op.bytesLess x y||x==y)=false):Op.bytesLess y x=true:=by
 simp only[Bool.or_eq_false_iff,beq_eq_false_iff_ne,bl_eq,decide_eq_false_iff_not]at h
 rw[bl_eq,decide_eq_true_eq]
 obtain⟨h1,h2⟩:=h
 by_cases h3:y<x
 ·exact h3
 ·exact absurd (List.le_antisymm (List.not_lt.1 h3) (List.not_lt.1 h1)) h2
theorem bl_asym{x y:List UInt8}(h:Op.bytesLess x y=true):(Op.bytesLess y x||y==x)=false:=by
 rw[Bool.or_eq_false_iff]
 constructor
 ·cases h':Op.bytesLess y x with
  |false=>rfl
  |true=>have:=bl_trans h h';rw[bl_irrefl]at this;cases this
 ·rw[beq_eq_false_iff_ne]
  rintro rfl
  rw[bl_irrefl]at h;cases h
abbrev Rise(l:List (List UInt8)):Prop:=l.Pairwise fun x y=>Op.bytesLess x y=true
theorem rise_ext:∀{l m:List (List UInt8)},Rise l→Rise m→(∀x,x∈l↔x∈m)→l=m
 |[],[],_,_,_=>rfl
 |[],y::m,_,_,h=>absurd ((h y).2 (by simp)) (by simp)
 |x::l,[],_,_,h=>absurd ((h x).1 (by simp)) (by simp)
 |x::l,y::m,h1,h2,h=>by
  have a1:∀z,z∈l→Op.bytesLess x z=true:=fun z hz=>List.rel_of_pairwise_cons h1 hz
  have a2:∀z,z∈m→Op.bytesLess y z=true:=fun z hz=>List.rel_of_pairwise_cons h2 hz
  have e:x=y:=by
   rcases List.mem_cons.1 ((h x).1 (by simp))with e|hx
   ·exact e
   ·rcases List.mem_cons.1 ((h y).2 (by simp))with e|hy
    ·exact e.symm
    ·have:=bl_trans (a1 _ hy) (a2 _ hx)
     rw[bl_irrefl]at this;cases this
  subst e
  congr 1
  refine rise_ext (List.Pairwise.of_cons h1) (List.Pairwise.of_cons h2) fun z=> ?_
  have hz:=h z
  simp only[List.mem_cons]at hz
  constructor
  ·intro h3
   rcases hz.1 (.inr h3)with e|h4
   ·subst e;have:=a1 _ h3;rw[bl_irrefl]at this;cases this
   ·exact h4
  ·intro h3
   rcases hz.2 (.inr h3)with e|h4
   ·subst e;have:=a2 _ h3;rw[bl_irrefl]at this;cases this
   ·exact h4
theorem uqG_mem(x z:List UInt8):∀{l:List (List UInt8)},z∈uqG x l→z∈l
 |[],h=>by simp[uqG]at h
 |y::l,h=>by
  unfold uqG at h
  split at h
  ·exact List.mem_cons_of_mem _ (uqG_mem x z h)
  ·rcases List.mem_cons.1 h with rfl|h
   ·simp
   ·exact List.mem_cons_of_mem _ (uqG_mem y z h)
theorem uqG_mem2(z:List UInt8):∀{l:List (List UInt8)}{x:List UInt8},z∈l→z=x∨z∈uqG x l
 |[],x,h=>by simp at h
 |y::l,x,h=>by
  unfold uqG
  by_cases e:y=x
  ·rw[if_pos e]
   rcases List.mem_cons.1 h with rfl|h
   ·exact .inl e
   ·exact uqG_mem2 z h
  ·rw[if_neg e]
   rcases List.mem_cons.1 h with rfl|h
   ·exact .inr (by simp)
   ·rcases uqG_mem2 (x:=y) z h with h2|h2
    ·exact .inr (by simp[h2])
    ·exact .inr (by simp[h2])
theorem uq_mem{z:List UInt8}{l:List (List UInt8)}:z∈uq l↔z∈l:=by
 cases l with
 |nil=>simp[uq]
 |cons x l=>
  simp only[uq,List.mem_cons]
  constructor
  ·rintro(h|h)
   ·exact .inl h
   ·exact .inr (uqG_mem x z h)
  ·rintro(h|h)
   ·exact .inl h
   ·exact uqG_mem2 z h
theorem le_ne_bl{x y:List UInt8}(h:x≤y)(hn:y≠x):Op.bytesLess x y=true:=by
 rw[bl_eq,decide_eq_true_eq]
 by_cases h3:x<y
 ·exact h3
 ·exact absurd (List.le_antisymm (List.not_lt.1 h3) h) hn
theorem uqG_rise:∀{l:List (List UInt8)}{x:List UInt8},(x::l).Pairwise (·≤·)→Rise (x::uqG x l)
 |[],x,_=>by simp[uqG,Rise]
 |y::l,x,h=>by
  have h1:∀{z},z∈y::l→x≤z:=fun hz=>List.rel_of_pairwise_cons h hz
  have h2:=List.Pairwise.of_cons h
  unfold uqG
  by_cases e:y=x
  ·rw[if_pos e]
   refine uqG_rise ?_
   refine List.Pairwise.cons (fun z hz=>h1 (List.mem_cons_of_mem _ hz)) (List.Pairwise.of_cons h2)
  ·rw[if_neg e]
   have h3:=uqG_rise h2
   refine List.Pairwise.cons (fun z hz=> ?_) h3
   have hxy:=le_ne_bl (h1 (by simp)) e
   rcases List.mem_cons.1 hz with rfl|hz
   ·exact hxy
   ·exact bl_trans hxy (List.rel_of_pairwise_cons h3 hz)
theorem namesOf_rise(l:List (List UInt8)):Rise (namesOf l):=by
 unfold namesOf
 have h:=isort_sorted l
 cases hl:isort l with
 |nil=>simp[uq,Rise]
 |cons x m=>rw[hl]at h;exact uqG_rise h
theorem namesOf_mem{l:List (List UInt8)}{z:List UInt8}:z∈namesOf l↔z∈l:=by
 unfold namesOf
 rw[uq_mem,(isort_perm l).mem_iff]
theorem namesOf_eq{l m:List (List UInt8)}(hm:Rise m)(h:∀x,x∈l↔x∈m):namesOf l=m:=
 rise_ext (namesOf_rise l) hm fun x=>by rw[namesOf_mem,h]
abbrev nms(v:List Amount):List (List UInt8):=v.map Amount.name
def rowT(l:List (List UInt8)):AV:=rowS Heap.nil (l.map .str)
end Go.Aa.T
set_option linter.unusedVariables false
set_option linter.unusedSimpArgs false
set_option maxRecDepth 100000
namespace Go.Aa.T
open Go.Aa Go.Proofs
def stopV(e:Int):AV:=.iface 145 (.agg [.int .i64 e])
theorem stop_ok:Gives cfg 79 [.int .i64 0] (.tuple []):=by
 refine Gives.run (l79 _ _) ?_
 exact goG 60 [] trivial (.ff<|.fin ((.ret (.tuple []),{boxes:=[],toks:=[],loops:=[]:Heap})) rfl) (by kernel_rfl)
theorem stop_pan{e:Int}(h:¬e=0):Pans cfg 79 [.int .i64 e] (stopV e):=by
 refine Pans.run (l79 _ _) ?_
 exact goG 60 [] trivial (.op (.bin .neq (.c (.int .i64 e)) (.c (.int .i64 0))) (.bool true) (pure_step (fun _=>neqT (k:=.i64) h) fun _ _ _=>rfl)<|.tt<|.panicI 145 (.agg [.int .i64 e]) Heap.nil rfl) (by kernel_rfl)
def skF{X:Type}:List X→SK
 |[]=>.full
 |_::_=>.own 0
instance{X:Type}(l:List X)(xs:List AV):Shut (.sl (skF l) xs) (.sl .sh xs):=⟨by cases l<;>exact⟨rfl,rfl⟩⟩
section
variable{X:Type}(enc:X→AV)
def tkR(acc:List X):List Nat:=(rowH Heap.nil (acc.map enc)).toks
theorem tk_cons(x:X)(l:List X):tkR enc (x::l)=[l.length+1]:=by simp[tkR,rowH,Heap.nil]
def rowF(l:List X):AV:=.sl (skF l) (l.map enc)
instance(l:List X):Shut (rowF enc l) (.sl .sh (l.map enc)):=⟨by cases l<;>exact⟨rfl,rfl⟩⟩
theorem rowF_eq(l:List X):rowF enc l=rowS Heap.nil (l.map enc):=by cases l<;>rfl
theorem row_append_T{x:X}{es bytes:Nat}{bs:List (List AV)}{ls:List LRec}{ys:List X}(h:((ys.map enc).length+1)*bytes≤140737488355328)(hl:lenOk es (ys.map enc)=true)(hv:cellsN es (enc x)=true)(hd:dataOk [enc x]=true):
 appendA es bytes ⟨bs,tkR enc ys,ls⟩ (rowF enc ys) (.sl .full [enc x])=some (rowF enc (ys++[x]),⟨bs,tkR enc (ys++[x]),ls⟩):=by
 rw[rowF_eq,rowF_eq]
 have hh:=row_append_map (f:=enc) (x:=x) (H:=Heap.nil) h hl hv hd
 cases ys with
 |nil=>
  simp only[rowS,rowH,List.map_nil,List.nil_append,List.map_cons,tkR,Heap.nil]at hh⊢
  simp only[appendA]at hh⊢
  split at hh
  ·rename_i hc;rw[if_pos hc];rfl
  ·cases hh
 |cons y ys=>
  simp only[rowS,rowH,List.cons_append,List.map_cons,tkR,Heap.nil]at hh⊢
  simp only[appendA]at hh⊢
  split at hh
  ·rename_i hc
   rw[if_pos hc]
   split at hh
   ·rename_i hc2
    rw[if_pos hc2]
    simp only[Option.some.injEq,Prod.mk.injEq,Heap.mk.injEq,true_and,and_true]at hh⊢
    exact hh
   ·cases hh
  ·cases hh
end
end Go.Aa.T
set_option linter.unusedVariables false
set_option linter.unusedSimpArgs false
set_option maxRecDepth 100000
namespace Go.Aa.T
open Go.Aa Go.Proofs
abbrev OfQ:=List UInt8→Int×Int
def madeF(g:OfQ):List (List UInt8)→List Amount→List Amount×Int
 |[],acc=>(acc,0)
 |s::r,acc=>if(g s).2=0 then madeF g r (if 0<(g s).1 then acc++[⟨s,(g s).1⟩]else acc)else([],(g s).2)
def finV(p:List Amount×Int):List Amount×Int:=if p.2=0 then(if 8<p.1.length then([],4)else(p.1,0))else([],p.2)
def madeV(g:OfQ)(vs:List (List Amount)):List Amount×Int:=
 if firstE (vs.map ckV)=0 then finV (madeF g (namesOf (allNames vs)) [])else([],firstE (vs.map ckV))
theorem trunc_self{v:AV}{H:Heap}:trunc H.boxes.length H.toks.length v H=H:=by
 unfold trunc
 have e1:∀(b:Bool),(if b=true then H.boxes.take H.boxes.length else H.boxes)=H.boxes:=fun b=>by
  split
  ·exact List.take_of_length_le (Nat.le_refl _)
  ·rfl
 have e2:∀(b:Bool),(if b=true then H.toks.take H.toks.length else H.toks)=H.toks:=fun b=>by
  split
  ·exact List.take_of_length_le (Nat.le_refl _)
  ·rfl
 simp only[e1,e2]
theorem trunc_keep{v:AV}{bs:List (List AV)}{tk:List Nat}{nb nt:Nat}(h:bs.length=nb)(h2:bs.all (·.all (in2 bs.length nt))=false):trunc nb nt v ⟨bs,tk,[]⟩=⟨bs,tk,[]⟩:=by
 unfold trunc
 have e1:∀(b:Bool),(if b=true then bs.take nb else bs)=bs:=fun b=>by
  split
  ·exact List.take_of_length_le (by omega)
  ·rfl
 simp only[e1,h2,Bool.and_false,Bool.false_eq_true,if_false]
section
variable(g:OfQ)(f:FuncId)(x0 x1:AV)(vs:List (List Amount))
def hMd(acc:List Amount):Heap:=⟨[[x0],[x1],[.func f [.ptr 0 0,.ptr 1 0]],[.sl .sh (vs.map encV)],[rowF encA acc]],tkR encA acc,[]⟩
def MadeR(p:List Amount×Int)(r:ARes×Heap):Prop:=(p.2=0∧r=(.ret (.tuple []),hMd f x0 x1 vs p.1))∨(p.2≠0∧r.1=.pan (stopV p.2))
theorem made_loop2(hof:∀s(B:List (List AV))(tk:List Nat),Does cfg (.call (.c (.func f [.ptr 0 0,.ptr 1 0])) [.c (.str s)]) ⟨[x0]::[x1]::B,tk,[]⟩ (.tuple [.int .i64 (g s).1,.int .i64 (g s).2]) ⟨[x0]::[x1]::B,tk,[]⟩)
 (ns:List (List UInt8))(hns:ns.length≤100000):∀(post:List (List UInt8))(i:Nat)(hd:ns.drop i=post)(acc:List Amount)(ha:acc.length≤i)(T:Env)
 (hT:Has T [(2,.ptr 4 0),(1,.ptr 2 0),(20,.sl .sh (ns.map .str)),(21,.int .i64 ns.length),(22,.int .i64 i)]),
 Goes cfg a98 k98_1 T (hMd f x0 x1 vs acc) (MadeR f x0 x1 vs (finV (madeF g post acc))):=by
 intro post
 induction post with
 |nil=>
  intro i hd acc ha T hT
  have hge:=drop_ge hd
  have hs:Pans cfg 79 [.int .i64 4] (stopV 4):=stop_pan (by decide)
  have e:madeF g [] acc=(acc,0):=rfl
  rw[e]
  by_cases h8:8<acc.length
  ·have e:finV (acc,0)=([],4):=by simp[finV,h8]
   rw[e]
   exact goG 90 _ hT (.no (show(decide ((↑i:Int)<(↑ns.length:Int)))=false from decide_eq_false (by omega))<|.len (show lenA false (.sl (skF acc) (acc.map encA))=some (.int .i64 (↑acc.length))from len_map _)<|.yes (show(decide ((8:Int)<(↑acc.length:Int)))=true from decide_eq_true (by omega))<|.callP ([.int .i64 4]) ({boxes:=[[x0],[x1],[.func f [.ptr 0 0,.ptr 1 0]],[.sl .sh (vs.map encV)],[.sl (skF acc) (acc.map encA)]],toks:=tkR encA acc,loops:=[]:Heap}) (show Pans cfg (79:FuncId) [.int .i64 4] (stopV (4:Int))from hs) ⟨rfl,rfl⟩ rfl (by exact .inr ⟨by decide,rfl⟩)) (by kernel_rfl)
  ·have e:finV (acc,0)=(acc,0):=by simp[finV,h8]
   rw[e]
   exact goG 90 _ hT (.no (show(decide ((↑i:Int)<(↑ns.length:Int)))=false from decide_eq_false (by omega))<|.len (show lenA false (.sl (skF acc) (acc.map encA))=some (.int .i64 (↑acc.length))from len_map _)<|.no (show(decide ((8:Int)<(↑acc.length:Int)))=false from decide_eq_false (by omega))<|.fin ((.ret (.tuple []),{boxes:=[[x0],[x1],[.func f [.ptr 0 0,.ptr 1 0]],[.sl .sh (vs.map encV)],[.sl (skF acc) (acc.map encA)]],toks:=tkR encA acc,loops:=[]:Heap})) (by exact .inl ⟨rfl,rfl⟩)) (by kernel_rfl)
 |cons s post ih=>
  intro i hd acc ha T hT
  have hlt:=drop_lt hd
  have hnx:=drop_next hd
  have hx:idxA 1 (.sl .sh (ns.map .str)) (.int .i64 (i:Nat))=some (.ref [.str s]):=idx_row (f:=AV.str) hd rfl
  have hf:=hof s
  have e:madeF g (s::post) acc=if(g s).2=0 then madeF g post (if 0<(g s).1 then acc++[⟨s,(g s).1⟩]else acc)else([],(g s).2):=rfl
  rw[e]
  by_cases h0:(g s).2=0
  ·rw[if_pos h0]
   rw[h0]at hf
   by_cases hp:0<(g s).1
   ·rw[if_pos hp]
    have ih':=ih (i+1) hnx (acc++[⟨s,(g s).1⟩]) (by simp;omega)
    generalize(g s).1=n at hf hp ih'⊢
    have ap:∀bs ls,appendA 2 24 ⟨bs,tkR encA acc,ls⟩ (rowF encA acc) (.sl .full [.agg [.str s,.int .i64 n]])=some (rowF encA (acc++[⟨s,n⟩]),⟨bs,tkR encA (acc++[⟨s,n⟩]),ls⟩):=fun bs ls=>
     row_append_T encA (x:=⟨s,n⟩) (by simp;omega) lenA2 rfl rfl
    exact let ζ1:Heap:={boxes:=[[x0],[x1],[.func f [.ptr 0 0,.ptr 1 0]],[.sl .sh (vs.map encV)],[.sl (skF acc) (acc.map encA)]],toks:=tkR encA acc,loops:=[]:Heap};goG 120 _ hT (.yes (show(decide ((↑i:Int)<(↑ns.length:Int)))=true from decide_eq_true (by omega))<|.idx (show idxA 1 (.sl .sh (List.map .str ns)) (.int .i64 ↑i)=some (.ref [.str s])from hx)<|.effY (show Does cfg (.call (.c (.func f [.ptr 0 0,.ptr 1 0])) [.c (.str s)]) ζ1 (.tuple [.int .i64 n,.int .i64 0]) ζ1 from hf _ _)<|.callI stop_ok<|.yes (show(decide ((0:Int)<n))=true from decide_eq_true (by exact hp))<|.append (show appendA (2:Nat) (24:Nat) ζ1 (.sl (skF acc) (acc.map encA)) (.sl .full [.agg [.str s,.int .i64 n]])=some ((rowF encA (acc++[{name:=s,n:=n:Amount}]),{boxes:=[[x0],[x1],[.func f [.ptr 0 0,.ptr 1 0]],[.sl .sh (vs.map encV)],[.sl (skF acc) (acc.map encA)]],toks:=tkR encA (acc++[{name:=s,n:=n:Amount}]),loops:=[]:Heap}))from ap _ _)<|.bin (show binA .add (.int .i64 ↑i) (.int .i64 1)=some (.int .i64 (↑(i+1)))from inc_i (by omega))<|.cutQ k98_1 [(2,.ptr 4 0),(1,.ptr 2 0),(20,.sl .sh (List.map .str ns)),(21,.int .i64 (↑ns.length)),(22,.int .i64 (↑(i+1)))] ({boxes:=[[x0],[x1],[.func f [.ptr 0 0,.ptr 1 0]],[.sl .sh (vs.map encV)],[.sl (skF (acc++[{name:=s,n:=n:Amount}])) (List.map encA (acc++[{name:=s,n:=n:Amount}]))]],toks:=tkR encA (acc++[{name:=s,n:=n:Amount}]),loops:=[]:Heap}) (fun T hT=>(ih' T hT))) (by kernel_rfl)
   ·rw[if_neg hp]
    have ih':=ih (i+1) hnx acc (by omega)
    generalize(g s).1=n at hf hp ih'⊢
    exact let ζ1:Heap:={boxes:=[[x0],[x1],[.func f [.ptr 0 0,.ptr 1 0]],[.sl .sh (vs.map encV)],[.sl (skF acc) (acc.map encA)]],toks:=tkR encA acc,loops:=[]:Heap};goG 120 _ hT (.yes (show(decide ((↑i:Int)<(↑ns.length:Int)))=true from decide_eq_true (by omega))<|.idx (show idxA 1 (.sl .sh (List.map .str ns)) (.int .i64 ↑i)=some (.ref [.str s])from hx)<|.effY (show Does cfg (.call (.c (.func f [.ptr 0 0,.ptr 1 0])) [.c (.str s)]) ζ1 (.tuple [.int .i64 n,.int .i64 0]) ζ1 from hf _ _)<|.callI stop_ok<|.no (show(decide ((0:Int)<n))=false from decide_eq_false (by exact hp))<|.bin (show binA .add (.int .i64 ↑i) (.int .i64 1)=some (.int .i64 (↑(i+1)))from inc_i (by omega))<|.cutQ k98_1 [(2,.ptr 4 0),(1,.ptr 2 0),(20,.sl .sh (List.map .str ns)),(21,.int .i64 (↑ns.length)),(22,.int .i64 (↑(i+1)))] (ζ1) (fun T hT=>(ih' T hT))) (by kernel_rfl)
  ·rw[if_neg h0]
   have hst:=stop_pan h0
   have e:finV ([],(g s).2)=([],(g s).2):=by simp[finV,h0]
   rw[e]
   generalize(g s).2=e at hf h0 hst⊢
   exact let ζ1:Heap:={boxes:=[[x0],[x1],[.func f [.ptr 0 0,.ptr 1 0]],[.sl .sh (vs.map encV)],[.sl (skF acc) (acc.map encA)]],toks:=tkR encA acc,loops:=[]:Heap};goG 120 _ hT (.yes (show(decide ((↑i:Int)<(↑ns.length:Int)))=true from decide_eq_true (by omega))<|.idx (show idxA 1 (.sl .sh (List.map .str ns)) (.int .i64 ↑i)=some (.ref [.str s])from hx)<|.effY (show Does cfg (.call (.c (.func f [.ptr 0 0,.ptr 1 0])) [.c (.str s)]) ζ1 (.tuple [.int .i64 (g s).fst,.int .i64 e]) ζ1 from hf _ _)<|.callP ([.int .i64 e]) (ζ1) (show Pans cfg (79:FuncId) [.int .i64 e] (stopV e)from hst) ⟨rfl,rfl⟩ rfl (by exact .inr ⟨h0,rfl⟩)) (by kernel_rfl)
theorem made_loop1(hof:∀s(B:List (List AV))(tk:List Nat),Does cfg (.call (.c (.func f [.ptr 0 0,.ptr 1 0])) [.c (.str s)]) ⟨[x0]::[x1]::B,tk,[]⟩ (.tuple [.int .i64 (g s).1,.int .i64 (g s).2]) ⟨[x0]::[x1]::B,tk,[]⟩)
 (hv:vs.length≤100):∀(post:List (List Amount))(i:Nat)(hd:vs.drop i=post)(hp:∀v∈vs.take i,ckV v=0)(T:Env)
 (hT:Has T [(0,.ptr 3 0),(1,.ptr 2 0),(2,.ptr 4 0),(9,.sl .sh (vs.map encV)),(10,.int .i64 vs.length),(11,.int .i64 i)]),
 Goes cfg a98 k98_0 T (hMd f x0 x1 vs []) (MadeR f x0 x1 vs (if firstE (post.map ckV)=0 then finV (madeF g (namesOf (allNames vs)) [])else([],firstE (post.map ckV)))):=by
 intro post
 induction post with
 |nil=>
  intro i hd hp T hT
  have hge:=drop_ge hd
  have hall:∀v∈vs,v.length≤100:=fun v hm=>by
   have:=hp v (by rw[List.take_of_length_le hge];exact hm)
   unfold ckV at this
   split at this
   ·omega
   ·cases this
  have hn:=names_any vs hv hall
  have hnl:(namesOf (allNames vs)).length≤10000:=by
   have h1:(namesOf (allNames vs)).length≤(allNames vs).length:=by
    unfold namesOf
    exact Nat.le_trans (uq_len _) (Nat.le_of_eq (isort_length _))
   have h2:∀(l:List (List Amount)),(∀v∈l,v.length≤100)→(allNames l).length≤100*l.length:=by
    intro l
    induction l with
    |nil=>intro _;simp[allNames]
    |cons v l ih=>
     intro h
     have:=ih fun w hw=>h w (by simp[hw])
     have h3:=h v (by simp)
     rw[allNames_cons,List.length_append,List.length_map,List.length_cons]
     omega
   have:=h2 vs hall
   omega
  have hn:=does_callF (xs:=[.sl .sh (vs.map encV)]) hn rfl rfl (hMd f x0 x1 vs [])
  have h2:=made_loop2 g f x0 x1 vs hof (namesOf (allNames vs)) (by omega) (namesOf (allNames vs)) 0 rfl [] (by simp)
  have e:(if firstE (([]:List (List Amount)).map ckV)=0 then finV (madeF g (namesOf (allNames vs)) [])else([],firstE (([]:List (List Amount)).map ckV)))=finV (madeF g (namesOf (allNames vs)) []):=rfl
  rw[e]
  generalize namesOf (allNames vs)=ns at hn h2 hnl⊢
  exact goG 90 _ hT (.no (show(decide ((↑i:Int)<(↑vs.length:Int)))=false from decide_eq_false (by omega))<|.effY (show Does cfg (.call (.c (.func (99:FuncId) [])) (List.map .c [.sl .sh (vs.map encV)])) (hMd f x0 x1 vs []) (.sl .sh (List.map .str ns)) (hMd f x0 x1 vs [])from hn)<|.len (show lenA false (.sl .sh (List.map .str ns))=some (.int .i64 (↑ns.length))from len_map _)<|.cutQ k98_1 [(2,.ptr 4 0),(1,.ptr 2 0),(20,.sl .sh (List.map .str ns)),(21,.int .i64 (↑ns.length)),(22,.int .i64 0)] ({boxes:=[[x0],[x1],[.func f [.ptr 0 0,.ptr 1 0]],[.sl .sh (vs.map encV)],[.sl .full []]],toks:=[],loops:=[]:Heap}) (fun T hT=>(h2 T hT))) (by kernel_rfl)
 |cons v post ih=>
  intro i hd hp T hT
  have hlt:=drop_lt hd
  have hnx:=drop_next hd
  have hx:idxA 1 (.sl .sh (vs.map encV)) (.int .i64 (i:Nat))=some (.ref [encV v]):=idx_row (f:=encV) hd rfl
  have hc:=ckV_any v
  by_cases h0:ckV v=0
  ·have e:firstE ((v::post).map ckV)=firstE (post.map ckV):=by simp[firstE,h0]
   rw[e]
   rw[h0]at hc
   have ih':=ih (i+1) hnx (fun w hw=>by
    rw[drop_take hd,List.mem_append]at hw
    rcases hw with hw|hw
    ·exact hp w hw
    ·rw[List.mem_singleton.1 hw];exact h0)
   exact goG 90 _ hT (.yes (show(decide ((↑i:Int)<(↑vs.length:Int)))=true from decide_eq_true (by omega))<|.idx (show idxA 1 (.sl .sh (vs.map encV)) (.int .i64 ↑i)=some (.ref [encV v])from hx)<|.callI hc<|.callI stop_ok<|.bin (show binA .add (.int .i64 ↑i) (.int .i64 1)=some (.int .i64 (↑(i+1)))from inc_i (by omega))<|.cutQ k98_0 [(0,.ptr 3 0),(1,.ptr 2 0),(2,.ptr 4 0),(9,.sl .sh (vs.map encV)),(10,.int .i64 (↑vs.length)),(11,.int .i64 (↑(i+1)))] ({boxes:=[[x0],[x1],[.func f [.ptr 0 0,.ptr 1 0]],[.sl .sh (vs.map encV)],[.sl .full []]],toks:=[],loops:=[]:Heap}) (fun T hT=>(ih' T hT))) (by kernel_rfl)
  ·have e:firstE ((v::post).map ckV)=ckV v:=by simp[firstE,h0]
   rw[e,if_neg h0]
   have hst:=stop_pan h0
   generalize ckV v=c at hc h0 hst⊢
   exact goG 90 _ hT (.yes (show(decide ((↑i:Int)<(↑vs.length:Int)))=true from decide_eq_true (by omega))<|.idx (show idxA 1 (.sl .sh (vs.map encV)) (.int .i64 ↑i)=some (.ref [encV v])from hx)<|.callI hc<|.callP ([.int .i64 c]) ({boxes:=[[x0],[x1],[.func f [.ptr 0 0,.ptr 1 0]],[.sl .sh (vs.map encV)],[.sl .full []]],toks:=[],loops:=[]:Heap}) (show Pans cfg (79:FuncId) [.int .i64 c] (stopV c)from hst) ⟨rfl,rfl⟩ rfl (by exact .inr ⟨h0,rfl⟩)) (by kernel_rfl)
theorem made_any(hof:∀s(B:List (List AV))(tk:List Nat),Does cfg (.call (.c (.func f [.ptr 0 0,.ptr 1 0])) [.c (.str s)]) ⟨[x0]::[x1]::B,tk,[]⟩ (.tuple [.int .i64 (g s).1,.int .i64 (g s).2]) ⟨[x0]::[x1]::B,tk,[]⟩)
 (hv:vs.length≤100)(hx:data0 x0=true∧data0 x1=true):∃H',Does cfg (.call (.c (.func 56 [])) [.c (.func f [.ptr 0 0,.ptr 1 0]),.c (.sl .sh (vs.map encV))]) ⟨[[x0],[x1]],[],[]⟩ (.tuple [.sl .sh ((madeV g vs).1.map encA),.int .i64 (madeV g vs).2]) H':=by
 have h1:=made_loop1 g f x0 x1 vs hof hv vs 0 rfl (by simp)
 have key:Goes cfg a98 [.c c98] (initEnv [.ptr 3 0,.ptr 2 0,.ptr 4 0]) (hMd f x0 x1 vs []) (MadeR f x0 x1 vs (madeV g vs)):=by
  exact goG 60 [] trivial (.len (show lenA false (.sl .sh (vs.map encV))=some (.int .i64 (↑vs.length))from len_map _)<|.cutQ k98_0 [(0,.ptr 3 0),(1,.ptr 2 0),(2,.ptr 4 0),(9,.sl .sh (vs.map encV)),(10,.int .i64 (↑vs.length)),(11,.int .i64 0)] ({boxes:=[[x0],[x1],[.func f [.ptr 0 0,.ptr 1 0]],[.sl .sh (vs.map encV)],[.sl .full []]],toks:=[],loops:=[]:Heap}) (fun T hT=>(h1 T hT))) (by kernel_rfl)
 obtain⟨⟨a,H1⟩,hr,hR⟩:=key
 have hin:∀nb nt,in2 nb nt x0=true∧in2 nb nt x1=true:=fun nb nt=>⟨in2_data0 hx.1,in2_data0 hx.2⟩
 rcases hR with⟨he,hR⟩|⟨he,hR⟩
 ·simp only[Prod.mk.injEq]at hR
  obtain⟨rfl,rfl⟩:=hR
  have ht:lim cfg (.fn 74) [.func 98 [.ptr 3 0,.ptr 2 0,.ptr 4 0]] (hMd f x0 x1 vs [])=some (.ret (.int .i64 0),hMd f x0 x1 vs (madeV g vs).1):=by
   rw[lim_try rfl,l98,hr];rfl
  have hd:Does cfg (.call (.c (.func 74 [])) [.c (.func 98 [.ptr 3 0,.ptr 2 0,.ptr 4 0])]) (hMd f x0 x1 vs []) (.int .i64 0) (hMd f x0 x1 vs (madeV g vs).1):=by
   have hd:=does_callE (xs:=[.func 98 [.ptr 3 0,.ptr 2 0,.ptr 4 0]]) (caps:=[]) ht rfl rfl
   refine Eq.mp ?_ hd
   congr 1
   generalize(madeV g vs).1=l
   show trunc 5 0 (.int .i64 0) ⟨[[x0],[x1],[.func f [.ptr 0 0,.ptr 1 0]],[.sl .sh (vs.map encV)],[rowF encA l]],tkR encA l,[]⟩=_
   cases l with
   |nil=>exact trunc_len (by rfl)
   |cons y l=>
    rw[tk_cons]
    refine(trunc_keep (by rfl) ?_).trans ?_
    ·simp[rowF,skF,in2,in1,in0]
    ·rw[←tk_cons encA y l];rfl
  rw[he]
  generalize(madeV g vs).1=l at hd⊢
  have k2:Goes cfg a56 [.c c56] (initEnv [.func f [.ptr 0 0,.ptr 1 0],.sl .sh (vs.map encV)]) ⟨[[x0],[x1]],[],[]⟩ (fun r=>r.1=.ret (.tuple [rowF encA l,.int .i64 0])):=by
   exact goG 60 [] trivial (.effY (show Does cfg (.call (.c (.func (74:FuncId) [])) [.c (.func (98:FuncId) [.ptr 3 0,.ptr 2 0,.ptr 4 0])]) (hMd f x0 x1 vs []) (.int .i64 0) (hMd f x0 x1 vs l)from hd)<|.ff<|.fin ((.ret (.tuple [.sl (skF l) (l.map encA),.int .i64 0]),{boxes:=[[x0],[x1],[.func f [.ptr 0 0,.ptr 1 0]],[.sl .sh (vs.map encV)],[.sl (skF l) (l.map encA)]],toks:=tkR encA l,loops:=[]:Heap})) rfl) (by kernel_rfl)
  obtain⟨⟨a,H2⟩,h2,h3⟩:=k2
  simp only at h3
  subst h3
  have h4:lim cfg (.fn 56) ([.func f [.ptr 0 0,.ptr 1 0],.sl .sh (vs.map encV)]++[]) ⟨[[x0],[x1]],[],[]⟩=some (.ret (.tuple [rowF encA l,.int .i64 0]),H2):=by
   rw[List.append_nil,l56];exact h2
  have hd2:=does_callE h4 rfl rfl
  have es:shutA (.tuple [rowF encA l,.int .i64 0])=.tuple [.sl .sh (l.map encA),.int .i64 0]:=by cases l<;>rfl
  rw[es]at hd2
  exact⟨_,hd2⟩
 ·simp only at hR
  subst hR
  have ht:lim cfg (.fn 74) [.func 98 [.ptr 3 0,.ptr 2 0,.ptr 4 0]] (hMd f x0 x1 vs [])=some (.ret (.int .i64 (madeV g vs).2),H1):=by
   rw[lim_try rfl,l98,hr];rfl
  have hd:=does_callE (xs:=[.func 98 [.ptr 3 0,.ptr 2 0,.ptr 4 0]]) (caps:=[]) ht rfl rfl
  generalize trunc _ _ _ H1=H2 at hd
  have e0:(madeV g vs).1=[]:=by
   unfold madeV at he⊢
   split
   ·rename_i h;rw[if_pos h]at he
    unfold finV at he⊢
    split
    ·rename_i h2;rw[if_pos h2]at he
     split
     ·rfl
     ·rename_i h3;rw[if_neg h3]at he;exact absurd rfl he
    ·rfl
   ·rfl
  rw[e0]
  generalize(madeV g vs).2=c at hd he⊢
  have k2:Goes cfg a56 [.c c56] (initEnv [.func f [.ptr 0 0,.ptr 1 0],.sl .sh (vs.map encV)]) ⟨[[x0],[x1]],[],[]⟩ (fun r=>r.1=.ret (.tuple [.sl .full [],.int .i64 c])):=by
   exact goG 60 [] trivial (.effY (show Does cfg (.call (.c (.func (74:FuncId) [])) (List.map .c [.func (98:FuncId) [.ptr 3 0,.ptr 2 0,.ptr 4 0]])) (hMd f x0 x1 vs []) (shutA (.int .i64 c)) H2 from hd)<|.yes (show(c !=(0:Int))=true from(by simpa using he))<|.fin ((.ret (.tuple [.sl .full [],.int .i64 c]),H2)) rfl) (by kernel_rfl)
  obtain⟨⟨a,H3⟩,h2,h3⟩:=k2
  simp only at h3
  subst h3
  have h4:lim cfg (.fn 56) ([.func f [.ptr 0 0,.ptr 1 0],.sl .sh (vs.map encV)]++[]) ⟨[[x0],[x1]],[],[]⟩=some (.ret (.tuple [.sl .full [],.int .i64 c]),H3):=by
   rw[List.append_nil,l56];exact h2
  have hd2:=does_callE h4 rfl rfl
  exact⟨_,hd2⟩
end
theorem add_of(a b:List Amount)(ha:a.length<9223372036854775807)(hb:b.length<9223372036854775807)(ra:∀s,inI (getQ a s))(rb:∀s,inI (getQ b s))(s:List UInt8)(B:List (List AV))(tk:List Nat):
 Does cfg (.call (.c (.func 57 [.ptr 0 0,.ptr 1 0])) [.c (.str s)]) ⟨[encV a]::[encV b]::B,tk,[]⟩ (.tuple [.int .i64 (addQ (getQ a s) (getQ b s)).1,.int .i64 (addQ (getQ a s) (getQ b s)).2]) ⟨[encV a]::[encV b]::B,tk,[]⟩:=by
 have g1:=getQ_any a s ha
 have g2:=getQ_any b s hb
 have g3:=qadd_any _ _ (ra s) (rb s)
 generalize getQ a s=p at g1 g3⊢
 generalize getQ b s=q at g2 g3⊢
 generalize addQ p q=z at g3⊢
 have key:Goes cfg a57 [.c c57] (initEnv [.str s,.ptr 0 0,.ptr 1 0]) ⟨[encV a]::[encV b]::B,tk,[]⟩ (fun r=>r=(.ret (.tuple [.int .i64 z.1,.int .i64 z.2]),⟨[encV a]::[encV b]::B,tk,[]⟩)):=by
  exact let ζ1:Heap:={boxes:=[.sl .sh (a.map encA)]::[.sl .sh (b.map encA)]::B,toks:=tk,loops:=[]:Heap};let ζ2:List AV:=[.int .i64 z.fst,.int .i64 z.snd];let ζ3:List AV:=[.sl .sh (a.map encA),.str s];let ζ4:List AV:=[.sl .sh (b.map encA),.str s];goG 60 [] trivial (.load (show loadA false 1 ζ1 (.ptr 0 0)=some (.sl .sh (a.map encA))from load_box (cs:=[.sl .sh (a.map encA)]) (by simp+zetaDelta) rfl)<|.callK (ζ3) (.int .i64 p) (show Gives cfg (36:FuncId) ζ3 (.int .i64 p)from g1)<|.load (show loadA false 1 ζ1 (.ptr 1 0)=some (.sl .sh (b.map encA))from load_box (cs:=[.sl .sh (b.map encA)]) (by simp+zetaDelta) rfl)<|.callK (ζ4) (.int .i64 q) (show Gives cfg (36:FuncId) ζ4 (.int .i64 q)from g2)<|.callI g3<|.fin ((.ret (.tuple ζ2),ζ1)) rfl) (by kernel_rfl)
 obtain⟨r,h,rfl⟩:=key
 have h2:lim cfg (.fn 57) ([.str s]++[.ptr 0 0,.ptr 1 0]) ⟨[encV a]::[encV b]::B,tk,[]⟩=some (.ret (.tuple [.int .i64 z.1,.int .i64 z.2]),⟨[encV a]::[encV b]::B,tk,[]⟩):=by
  rw[show([AV.str s]++[.ptr 0 0,.ptr 1 0])=[.str s,.ptr 0 0,.ptr 1 0]from rfl,l57];exact h
 have hd:=does_callE h2 rfl rfl
 rwa [trunc_self]at hd
def rgA(v:List Amount):Prop:=∀x∈v,inI x.n
theorem rg_get{v:List Amount}(h:rgA v)(s:List UInt8):inI (getQ v s):=by
 unfold getQ
 split
 ·rename_i x hx;exact h x (List.mem_of_find?_eq_some hx)
 ·unfold inI;omega
def addV(a b:List Amount):List Amount×Int:=madeV (fun s=>addQ (getQ a s) (getQ b s)) [a,b]
def subV(a b:List Amount):List Amount×Int:=madeV (fun s=>subQ (getQ a s) (getQ b s)) [a,b]
theorem addV_any(a b:List Amount)(ha:a.length<9223372036854775807)(hb:b.length<9223372036854775807)(ra:rgA a)(rb:rgA b):
 Gives cfg 21 [.sl .sh (a.map encA),.sl .sh (b.map encA)] (.tuple [.sl .sh ((addV a b).1.map encA),.int .i64 (addV a b).2]):=by
 refine Gives.run (l21 _ _) ?_
 obtain⟨H',h⟩:=made_any (fun s=>addQ (getQ a s) (getQ b s)) 57 (encV a) (encV b) [a,b] (add_of a b ha hb (rg_get ra) (rg_get rb)) (by simp) ⟨rfl,rfl⟩
 have h2:Does cfg (.call (.c (.func 56 [])) [.c (.func 57 [.ptr 0 0,.ptr 1 0]),.c (.sl .sh [.sl .sh (a.map encA),.sl .sh (b.map encA)])]) ⟨[[.sl .sh (a.map encA)],[.sl .sh (b.map encA)]],[],[]⟩ (.tuple [.sl .sh ((addV a b).1.map encA),.int .i64 (addV a b).2]) H':=h
 have h3:Does cfg (.call (.c (.func 56 [])) [.c (.func 57 [.ptr 0 0,.ptr 1 0]),.c (.sl .full [.sl .sh (a.map encA),.sl .sh (b.map encA)])]) ⟨[[.sl .sh (a.map encA)],[.sl .sh (b.map encA)]],[],[]⟩ (.tuple [.sl .sh ((addV a b).1.map encA),.int .i64 (addV a b).2]) H':=fun T=>h2 T
 generalize addV a b=z at h3⊢
 exact let ζ1:List AV:=[.sl .sh (z.fst.map encA),.int .i64 z.snd];goG 60 [] trivial (.effY (show Does cfg (.call (.c (.func (56:FuncId) [])) [.c (.func (57:FuncId) [.ptr 0 0,.ptr 1 0]),.c (.sl .full [.sl .sh (a.map encA),.sl .sh (b.map encA)])]) {boxes:=[[.sl .sh (a.map encA)],[.sl .sh (b.map encA)]],toks:=[],loops:=[]:Heap} (.tuple ζ1) H' from h3)<|.fin ((.ret (.tuple ζ1),H')) rfl) (by kernel_rfl)
end Go.Aa.T
set_option linter.unusedVariables false
set_option linter.unusedSimpArgs false
set_option maxRecDepth 100000
namespace Go.Aa.T
open Go.Aa Go.Proofs
def mulQ(a b:Int):Int×Int:=if bothE a b≠0 then(0,bothE a b)else toldQ (a*b)
def partQ(a b:Int):Int×Int:=if bothE a b≠0 then(0,bothE a b)else toldQ (a*b/1000)
theorem add64_0{r:Nat}(h:r<18446744073709551616):Gives cfg 126 [.int .u64 (r:Int),.int .u64 0,.int .u64 0] (.tuple [.int .u64 (r:Int),.int .u64 0]):=by
 refine Gives.of (H':=Heap.nil) ?_
 rw[lim_ext (g:=add64E) rfl rfl]
 have:add64E [.int .u64 (r:Int),.int .u64 0,.int .u64 0] Heap.nil=some (.tuple [.int .u64 (r:Int),.int .u64 0],Heap.nil):=by
  have h1:((r:Int)+0+0)%18446744073709551616=r:=by omega
  have h2:((r:Int)+0+0)/18446744073709551616=0:=by omega
  simp only[add64E]
  rw[if_pos ⟨by omega,by decide,by decide⟩,h1,h2]
 rw[this];rfl
theorem told_gt{n:Int}{b:Bool}(hb:b=true):Gives cfg 101 [.int .u64 n,.bool b] (.tuple [.int .i64 0,.int .i64 5]):=by subst hb;exact told_over n
theorem told_le{n:Int}{b:Bool}(h:0≤n)(hb:b=false):Gives cfg 101 [.int .u64 n,.bool b] (.tuple [.int .i64 (toldQ n).1,.int .i64 (toldQ n).2]):=by subst hb;exact told_any n h
theorem qmul_any(a b:Int)(ha:inI a)(hb:inI b):Gives cfg 67 [.int .i64 a,.int .i64 b] (.tuple [.int .i64 (mulQ a b).1,.int .i64 (mulQ a b).2]):=by
 refine Gives.run (l67 _ _) ?_
 obtain⟨ha1,ha2⟩:=ha
 obtain⟨hb1,hb2⟩:=hb
 have h0:=both_any a b
 by_cases he:bothE a b=0
 ·have e:mulQ a b=toldQ (a*b):=by simp[mulQ,he]
  rw[e]
  obtain⟨i1,i2⟩:=both_ok he
  rw[he]at h0
  obtain⟨x,rfl⟩:∃x:Nat,a=x:=⟨a.toNat,by omega⟩
  obtain⟨y,rfl⟩:∃y:Nat,b=y:=⟨b.toNat,by omega⟩
  have c1:convA (.int .u64) (.int .i64 (x:Int))=some (.int .u64 (x:Int)):=conv_u64 i1 (by omega)
  have c2:convA (.int .u64) (.int .i64 (y:Int))=some (.int .u64 (y:Int)):=conv_u64 i2 (by omega)
  have hm:=mul64_any x y (by omega) (by omega)
  have ep:(x:Int)*(y:Int)=((x*y:Nat):Int):=by simp
  rw[ep]
  generalize x*y=p at hm⊢
  by_cases hh:p/18446744073709551616=0
  ·have ht:=told_le (n:=((p%18446744073709551616:Nat):Int)) (b:=decide ((0:Int)<((p/18446744073709551616:Nat):Int))) (by omega) (by simp;omega)
   have e2:p%18446744073709551616=p:=by omega
   rw[e2]at hm ht
   generalize p/18446744073709551616=q at hm ht
   generalize toldQ (p:Int)=z at ht⊢
   exact let ζ1:List AV:=[.int .i64 z.fst,.int .i64 z.snd];let ζ2:List AV:=[.int .u64 ↑p,.bool (decide ((0:Int)<(↑q:Int)))];let ζ3:List AV:=[.int .i64 ↑x,.int .i64 ↑y];let ζ4:List AV:=[.int .u64 ↑x,.int .u64 ↑y];let ζ5:List AV:=[.int .u64 ↑q,.int .u64 ↑p];goG 60 [] trivial (.callK (ζ3) (.int .i64 0) (show Gives cfg (100:FuncId) ζ3 (.int .i64 0)from h0)<|.ff<|.conv (show convA (CV.int IntKind.u64) (.int .i64 ↑x)=some (.int .u64 ↑x)from c1)<|.conv (show convA (CV.int IntKind.u64) (.int .i64 ↑y)=some (.int .u64 ↑y)from c2)<|.callK (ζ4) (.tuple ζ5) (show Gives cfg (102:FuncId) ζ4 (.tuple ζ5)from hm)<|.callK (ζ2) (.tuple ζ1) (show Gives cfg (101:FuncId) ζ2 (.tuple ζ1)from ht)<|.fin ((.ret (.tuple ζ1),{boxes:=[],toks:=[],loops:=[]:Heap})) rfl) (by kernel_rfl)
  ·have ht:=told_gt (n:=((p%18446744073709551616:Nat):Int)) (b:=decide ((0:Int)<((p/18446744073709551616:Nat):Int))) (by simp;omega)
   have e2:toldQ (p:Int)=(0,5):=by unfold toldQ;rw[if_pos (by omega)]
   rw[e2]
   generalize p/18446744073709551616=q at hm ht
   generalize p%18446744073709551616=r at hm ht
   exact let ζ1:List AV:=[.int .u64 ↑r,.bool (decide ((0:Int)<(↑q:Int)))];let ζ2:List AV:=[.int .i64 ↑x,.int .i64 ↑y];let ζ3:List AV:=[.int .u64 ↑x,.int .u64 ↑y];let ζ4:List AV:=[.int .u64 ↑q,.int .u64 ↑r];goG 60 [] trivial (.callK (ζ2) (.int .i64 0) (show Gives cfg (100:FuncId) ζ2 (.int .i64 0)from h0)<|.ff<|.conv (show convA (CV.int IntKind.u64) (.int .i64 ↑x)=some (.int .u64 ↑x)from c1)<|.conv (show convA (CV.int IntKind.u64) (.int .i64 ↑y)=some (.int .u64 ↑y)from c2)<|.callK (ζ3) (.tuple ζ4) (show Gives cfg (102:FuncId) ζ3 (.tuple ζ4)from hm)<|.callK (ζ1) (.tuple [.int .i64 0,.int .i64 5]) (show Gives cfg (101:FuncId) ζ1 (.tuple [.int .i64 0,.int .i64 5])from ht)<|.fin ((.ret (.tuple [.int .i64 0,.int .i64 5]),{boxes:=[],toks:=[],loops:=[]:Heap})) rfl) (by kernel_rfl)
 ·have e:mulQ a b=(0,bothE a b):=by simp[mulQ,he]
  rw[e]
  generalize bothE a b=c at*
  exact goG 60 [] trivial (.callI h0<|.yes (show(c !=(0:Int))=true from(by simpa using he))<|.fin ((.ret (.tuple [.int .i64 0,.int .i64 c]),{boxes:=[],toks:=[],loops:=[]:Heap})) rfl) (by kernel_rfl)
theorem div64_all(hi lo:Nat)(h:hi<1000)(hl:lo<18446744073709551616):∃rem:Int,Gives cfg 127 [.int .u64 (hi:Int),.int .u64 (lo:Int),.int .u64 1000] (.tuple [.int .u64 (((hi*18446744073709551616+lo)/1000:Nat):Int),.int .u64 rem]):=by
 by_cases h0:hi=0
 ·subst h0
  obtain⟨r,h⟩:=div64_one lo hl
  refine⟨r,?_⟩
  have e:0*18446744073709551616+lo=lo:=by omega
  rw[e]
  exact h
 ·obtain⟨r,h⟩:=div64_two hi lo (by omega) h hl
  exact⟨r,h⟩
theorem part_ar(p:Nat):p/18446744073709551616*18446744073709551616+p%18446744073709551616=p:=by omega
theorem part_big{p:Nat}(h:¬p/18446744073709551616<1000):(9223372036854775807:Int)<((p:Nat):Int)/1000:=by omega
theorem qpart0_any(a b:Int)(ha:inI a)(hb:inI b):Gives cfg 103 [.int .i64 a,.int .i64 b,.int .u64 0] (.tuple [.int .i64 (partQ a b).1,.int .i64 (partQ a b).2]):=by
 refine Gives.run (l103 _ _) ?_
 obtain⟨ha1,ha2⟩:=ha
 obtain⟨hb1,hb2⟩:=hb
 have h0:=both_any a b
 by_cases he:bothE a b=0
 ·have e:partQ a b=toldQ (a*b/1000):=by simp[partQ,he]
  rw[e]
  obtain⟨i1,i2⟩:=both_ok he
  rw[he]at h0
  obtain⟨x,rfl⟩:∃x:Nat,a=x:=⟨a.toNat,by omega⟩
  obtain⟨y,rfl⟩:∃y:Nat,b=y:=⟨b.toNat,by omega⟩
  have c1:convA (.int .u64) (.int .i64 (x:Int))=some (.int .u64 (x:Int)):=conv_u64 i1 (by omega)
  have c2:convA (.int .u64) (.int .i64 (y:Int))=some (.int .u64 (y:Int)):=conv_u64 i2 (by omega)
  have hm:=mul64_any x y (by omega) (by omega)
  have ep:(x:Int)*(y:Int)=((x*y:Nat):Int):=by simp
  rw[ep]
  have hq:x*y/18446744073709551616<18446744073709551616:=by
   have:=Nat.mul_lt_mul'' (show x<18446744073709551616 by omega) (show y<18446744073709551616 by omega)
   omega
  generalize x*y=p at hm hq⊢
  have hlo:p%18446744073709551616<18446744073709551616:=by omega
  have hpa:=part_ar p
  have hpb:= @part_big p
  have hpd:((p:Nat):Int)/1000=((p/1000:Nat):Int):=by omega
  have hd:=div64_all (p/18446744073709551616) (p%18446744073709551616)
  rw[hpa]at hd
  generalize p/18446744073709551616=q at hm hd hpb hq
  generalize p%18446744073709551616=r at hm hd hlo
  have ha64:Gives cfg 126 [.int .u64 (r:Int),.int .u64 0,.int .u64 0] (.tuple [.int .u64 (r:Int),.int .u64 0]):=add64_0 (by omega)
  have hs:binA .add (.int .u64 (q:Int)) (.int .u64 0)=some (.int .u64 (q:Int)):=by rw[addU (by omega) (by omega)];simp
  by_cases hh:q<1000
  ·obtain⟨rem,hd⟩:=hd hh hlo
   have ht:=told_any ((p/1000:Nat):Int) (by omega)
   rw[hpd]
   generalize p/1000=m at hd ht
   generalize toldQ (m:Int)=z at ht⊢
   exact let ζ1:List AV:=[.int .i64 z.fst,.int .i64 z.snd];let ζ2:List AV:=[.int .u64 ↑q,.int .u64 ↑r,.int .u64 1000];let ζ3:List AV:=[.int .u64 ↑r,.int .u64 0,.int .u64 0];let ζ4:List AV:=[.int .i64 ↑x,.int .i64 ↑y];let ζ5:List AV:=[.int .u64 ↑x,.int .u64 ↑y];let ζ6:List AV:=[.int .u64 ↑q,.int .u64 ↑r];let ζ7:List AV:=[.int .u64 ↑m,.int .u64 rem];let ζ8:List AV:=[.int .u64 ↑r,.int .u64 0];let ζ9:List AV:=[.int .u64 ↑m,.bool false];goG 90 [] trivial (.callK (ζ4) (.int .i64 0) (show Gives cfg (100:FuncId) ζ4 (.int .i64 0)from h0)<|.ff<|.conv (show convA (CV.int IntKind.u64) (.int .i64 ↑x)=some (.int .u64 ↑x)from c1)<|.conv (show convA (CV.int IntKind.u64) (.int .i64 ↑y)=some (.int .u64 ↑y)from c2)<|.callK (ζ5) (.tuple ζ6) (show Gives cfg (102:FuncId) ζ5 (.tuple ζ6)from hm)<|.callK (ζ3) (.tuple ζ8) (show Gives cfg (126:FuncId) ζ3 (.tuple ζ8)from ha64)<|.bin (show binA .add (.int .u64 ↑q) (.int .u64 0)=some (.int .u64 ↑q)from hs)<|.no (show(decide ((1000:Int)≤(↑q:Int)))=false from decide_eq_false (by omega))<|.callK (ζ2) (.tuple ζ7) (show Gives cfg (127:FuncId) ζ2 (.tuple ζ7)from hd)<|.callK (ζ9) (.tuple ζ1) (show Gives cfg (101:FuncId) ζ9 (.tuple ζ1)from ht)<|.fin ((.ret (.tuple ζ1),{boxes:=[],toks:=[],loops:=[]:Heap})) rfl) (by kernel_rfl)
  ·have hb:=hpb hh
   have e2:toldQ (((p:Nat):Int)/1000)=(0,5):=by unfold toldQ;rw[if_pos hb]
   rw[e2]
   exact let ζ1:List AV:=[.int .u64 ↑r,.int .u64 0,.int .u64 0];let ζ2:List AV:=[.int .i64 ↑x,.int .i64 ↑y];let ζ3:List AV:=[.int .u64 ↑x,.int .u64 ↑y];let ζ4:List AV:=[.int .u64 ↑q,.int .u64 ↑r];let ζ5:List AV:=[.int .u64 ↑r,.int .u64 0];goG 90 [] trivial (.callK (ζ2) (.int .i64 0) (show Gives cfg (100:FuncId) ζ2 (.int .i64 0)from h0)<|.ff<|.conv (show convA (CV.int IntKind.u64) (.int .i64 ↑x)=some (.int .u64 ↑x)from c1)<|.conv (show convA (CV.int IntKind.u64) (.int .i64 ↑y)=some (.int .u64 ↑y)from c2)<|.callK (ζ3) (.tuple ζ4) (show Gives cfg (102:FuncId) ζ3 (.tuple ζ4)from hm)<|.callK (ζ1) (.tuple ζ5) (show Gives cfg (126:FuncId) ζ1 (.tuple ζ5)from ha64)<|.bin (show binA .add (.int .u64 ↑q) (.int .u64 0)=some (.int .u64 ↑q)from hs)<|.yes (show(decide ((1000:Int)≤(↑q:Int)))=true from decide_eq_true (by omega))<|.fin ((.ret (.tuple [.int .i64 0,.int .i64 5]),{boxes:=[],toks:=[],loops:=[]:Heap})) rfl) (by kernel_rfl)
 ·have e:partQ a b=(0,bothE a b):=by simp[partQ,he]
  rw[e]
  generalize bothE a b=c at*
  exact goG 60 [] trivial (.callI h0<|.yes (show(c !=(0:Int))=true from(by simpa using he))<|.fin ((.ret (.tuple [.int .i64 0,.int .i64 c]),{boxes:=[],toks:=[],loops:=[]:Heap})) rfl) (by kernel_rfl)
theorem qpart_any(a b:Int)(ha:inI a)(hb:inI b):Gives cfg 70 [.int .i64 a,.int .i64 b] (.tuple [.int .i64 (partQ a b).1,.int .i64 (partQ a b).2]):=by
 refine Gives.run (l70 _ _) ?_
 have h:=qpart0_any a b ha hb
 generalize partQ a b=z at h⊢
 exact let ζ1:List AV:=[.int .i64 z.fst,.int .i64 z.snd];let ζ2:List AV:=[.int .i64 a,.int .i64 b,.int .u64 0];goG 60 [] trivial (.callK (ζ2) (.tuple ζ1) (show Gives cfg (103:FuncId) ζ2 (.tuple ζ1)from h)<|.fin ((.ret (.tuple ζ1),{boxes:=[],toks:=[],loops:=[]:Heap})) rfl) (by kernel_rfl)
end Go.Aa.T
set_option linter.unusedVariables false
set_option linter.unusedSimpArgs false
set_option maxRecDepth 100000
namespace Go.Aa.T
open Go.Aa Go.Proofs
structure Pod where
 name:List UInt8
 owner:List UInt8
 prio:Int
 need:List Amount
 labels:List Pair
 sel:List Term
 tols:List Tol
 key:List UInt8
 most:Int
 node:List UInt8
 hold:Bool
structure PodOk(p:Pod):Prop where
 name:isName p.name=true
 owner:p.owner=[]∨isName p.owner=true
 prio: -1≤p.prio∧p.prio≤1000000
 hold:p.hold=decide (p.prio= -1)
 need:ckV p.need=0
 labels:ckS p.labels=0
 sel:ckM p.sel=0
 tols:ckL p.tols=0
 key:p.key=[]∨isName p.key=true
 most:0≤p.most∧p.most≤128∧(p.key=[]↔p.most=0)
 node:p.node=[]∨isName p.node=true
end Go.Aa.T
set_option linter.unusedVariables false
set_option linter.unusedSimpArgs false
set_option maxRecDepth 100000
namespace Go.Aa.T
open Go.Aa Go.Proofs
structure VOk(v:List Amount):Prop where
 len:v.length≤8
 name:∀x∈v,isName x.name=true
 pos:∀x∈v,0<x.n
 rise:Rise (nms v)
theorem ckVl_ok{s:List Amount}:∀{post:List Amount}{i:Nat},ckVl s i post=0→s.drop i=post→(∀x∈post,isName x.name=true∧0<x.n)∧Rise (nms post)∧∀j p,i=j+1→s[j]?=some p→Rise (p.name::nms post)
 |[],i,h,hd=>⟨by simp,by simp[Rise],fun j p _ _=>by simp[Rise]⟩
 |x::post,i,h,hd=>by
  unfold ckVl at h
  split at h
  ·rename_i hn
   split at h
   ·cases h
   ·rename_i hp
    split at h
    ·cases h
    ·rename_i ho
     obtain⟨h1,h2,h3⟩:=ckVl_ok h (drop_next hd)
     have h4:=h3 i x rfl (drop_at hd)
     refine⟨fun y hy=> ?_,h4,fun j p hj hp'=> ?_⟩
     ·rcases List.mem_cons.1 hy with rfl|hy
      ·exact⟨hn,by omega⟩
      ·exact h1 y hy
     ·subst hj
      simp only[ordV,hp',Bool.not_eq_true]at ho
      have h5:=bl_not ho
      refine List.Pairwise.cons (fun z hz=> ?_) h4
      rcases List.mem_cons.1 hz with rfl|hz
      ·exact h5
      ·exact bl_trans h5 (List.rel_of_pairwise_cons h4 hz)
  ·cases h
theorem vOk{v:List Amount}(h:ckV v=0):VOk v:=by
 unfold ckV at h
 split at h
 ·rename_i hl
  obtain⟨h1,h2,-⟩:=ckVl_ok h rfl
  exact⟨hl,fun x hx=>(h1 x hx).1,fun x hx=>(h1 x hx).2,h2⟩
 ·cases h
theorem ckVl_of{s:List Amount}:∀{post:List Amount}{i:Nat},s.drop i=post→(∀x∈s,isName x.name=true)→(∀x∈s,0<x.n)→Rise (nms s)→ckVl s i post=0
 |[],i,hd,_,_,_=>rfl
 |x::post,i,hd,h1,h2,h3=>by
  have hx:=drop_mem hd
  have ih:=ckVl_of (drop_next hd) h1 h2 h3
  have hp:=h2 x hx
  have ho:ordV s i x=false:=by
   cases i with
   |zero=>rfl
   |succ j=>
    have hlt:=drop_lt hd
    have hj:s[j]?=some (s[j]'(by omega)):=List.getElem?_eq_getElem _
    simp only[ordV,hj]
    have h4:=List.pairwise_iff_getElem.1 h3 j (j+1) (by simp;omega) (by simp;omega) (by omega)
    simp only[List.getElem_map]at h4
    have e:s[j+1]=x:=by
     have:=drop_at hd
     rw[List.getElem?_eq_getElem hlt]at this
     exact Option.some.inj this
    rw[e]at h4
    exact bl_asym h4
  unfold ckVl
  rw[if_pos (h1 x hx),if_neg (by omega),ho,if_neg (by simp)]
  exact ih
theorem ckV_of{v:List Amount}(h:VOk v):ckV v=0:=by
 unfold ckV
 rw[if_pos h.len]
 exact ckVl_of rfl h.name h.pos h.rise
theorem getQ_none{v:List Amount}{s:List UInt8}(h:s∉nms v):getQ v s=0:=by
 unfold getQ
 have:v.find? (fun x=>x.name==s)=none:=by
  rw[List.find?_eq_none]
  intro x hx e
  exact h (List.mem_map.2 ⟨x,hx,by simpa using e⟩)
 rw[this]
theorem getQ_some{v:List Amount}{s:List UInt8}(h:s∈nms v):∃x∈v,x.name=s∧getQ v s=x.n:=by
 unfold getQ
 cases hf:v.find? (fun x=>x.name==s)with
 |none=>
  obtain⟨x,hx,rfl⟩:=List.mem_map.1 h
  have:=List.find?_eq_none.1 hf x hx
  simp at this
 |some x=>exact⟨x,List.mem_of_find?_eq_some hf,by simpa using List.find?_some hf,rfl⟩
def kq:Bool→SK
 |true=>.sh
 |false=>.full
instance(c:Bool)(l:List AV):Shut (.sl (kq c) l) (.sl .sh l):=⟨by cases c<;>exact⟨rfl,rfl⟩⟩
def resV(c:Bool)(p:List Amount×Int):AV:=.tuple [.sl (kq c) (p.1.map encA),.int .i64 p.2]
instance(c:Bool)(p:List Amount×Int):Res (resV c p) (.tuple [.sl .sh (p.1.map encA),.int .i64 p.2]):=⟨by
 cases c<;>exact⟨rfl,rfl⟩⟩
def resW(c:Bool)(l:List Amount)(e:Int):AV:=.tuple [.sl (kq c) (l.map encA),.int .i64 e]
instance(c:Bool)(l:List Amount)(e:Int):Res (resW c l e) (.tuple [.sl .sh (l.map encA),.int .i64 e]):=⟨by
 cases c<;>exact⟨rfl,rfl⟩⟩
instance(l:List (List UInt8)):Shut (rowT l) (.sl .sh (l.map .str)):=inferInstanceAs(Shut (rowS Heap.nil (l.map .str)) _)
end Go.Aa.T
set_option linter.unusedVariables false
set_option linter.unusedSimpArgs false
set_option maxRecDepth 100000
namespace Go.Aa.T
open Go.Aa Go.Proofs
structure POk(v:List Amount):Prop where
 name:∀x∈v,isName x.name=true
 pos:∀x∈v,0<x.n
 rise:Rise (nms v)
theorem VOk.p{v:List Amount}(h:VOk v):POk v:=⟨h.name,h.pos,h.rise⟩
theorem POk.v{v:List Amount}(h:POk v)(hl:v.length≤8):VOk v:=⟨hl,h.name,h.pos,h.rise⟩
theorem rise_len{l m:List (List UInt8)}(hl:Rise l)(hm:Rise m)(h:∀x∈l,x∈m):l.length≤m.length:=by
 have e:l=m.filter fun x=>decide (x∈l):=rise_ext hl (hm.filter _) fun x=>by
  simp only[List.mem_filter,decide_eq_true_eq]
  exact⟨fun hx=>⟨h x hx,hx⟩,fun hx=>hx.2⟩
 rw[e];exact List.length_filter_le _ _
theorem names_sub{l m:List (List UInt8)}(h:∀x∈l,x∈m):(namesOf l).length≤(namesOf m).length:=
 rise_len (namesOf_rise l) (namesOf_rise m) fun x hx=>namesOf_mem.2 (h x (namesOf_mem.1 hx))
theorem pok_pos{v:List Amount}(h:POk v){s:List UInt8}:s∈nms v↔0<getQ v s:=by
 constructor
 ·intro hs
  obtain⟨x,hx,-,e⟩:=getQ_some hs
  rw[e];exact h.pos x hx
 ·intro hs
  by_cases hm:s∈nms v
  ·exact hm
  ·rw[getQ_none hm]at hs;omega
theorem pok_nn{v:List Amount}(h:POk v)(s:List UInt8):0≤getQ v s:=by
 by_cases hm:s∈nms v
 ·have:=(pok_pos h).1 hm;omega
 ·rw[getQ_none hm];omega
theorem getQ_mem:∀{v:List Amount},Rise (nms v)→∀x∈v,getQ v x.name=x.n
 |[],_,x,hx=>by cases hx
 |y::v,h,x,hx=>by
  rw[getQ_cons]
  rcases List.mem_cons.1 hx with rfl|hx
  ·rw[if_pos rfl]
  ·rw[if_neg,getQ_mem (List.Pairwise.of_cons h) x hx]
   intro e
   have:=List.rel_of_pairwise_cons h (List.mem_map.2 ⟨x,hx,rfl⟩)
   rw[e,bl_irrefl]at this
   cases this
theorem self_map{v:List Amount}(h:POk v):v=(nms v).map fun s=>⟨s,getQ v s⟩:=by
 rw[List.map_map]
 conv=>lhs;rw[←List.map_id v]
 exact List.map_congr_left fun x hx=>by simp[getQ_mem h.rise x hx]
theorem pok_ext{a b:List Amount}(ha:POk a)(hb:POk b)(h:∀s,getQ a s=getQ b s):a=b:=by
 have e:nms a=nms b:=rise_ext ha.rise hb.rise fun s=>by rw[pok_pos ha,pok_pos hb,h]
 rw[self_map ha,self_map hb,e]
 exact List.map_congr_left fun s _=>by rw[h]
def mk1(g:OfQ)(l:List (List UInt8)):List Amount:=(l.filter fun s=>decide (0<(g s).1)).map fun s=>⟨s,(g s).1⟩
theorem madeF_ok{g:OfQ}:∀{l:List (List UInt8)}(acc:List Amount),(∀s∈l,(g s).2=0)→madeF g l acc=(acc++mk1 g l,0)
 |[],acc,_=>by simp[madeF,mk1]
 |s::l,acc,h=>by
  unfold madeF
  rw[if_pos (h s (by simp)),madeF_ok _ fun t ht=>h t (by simp[ht])]
  by_cases hp:0<(g s).1<;>simp[mk1,hp]
theorem madeF_zero{g:OfQ}:∀{l:List (List UInt8)}{acc:List Amount},(madeF g l acc).2=0→∀s∈l,(g s).2=0
 |[],acc,_,s,hs=>by cases hs
 |t::l,acc,h,s,hs=>by
  unfold madeF at h
  split at h
  ·rename_i h0
   rcases List.mem_cons.1 hs with rfl|hs
   ·exact h0
   ·exact madeF_zero h s hs
  ·rename_i h0;exact absurd h h0
theorem nms_mk1(g:OfQ)(l:List (List UInt8)):nms (mk1 g l)=l.filter fun s=>decide (0<(g s).1):=by
 simp only[nms,mk1,List.map_map]
 conv=>rhs;rw[←List.map_id (l.filter _)]
 rfl
theorem mk1_ok{g:OfQ}{l:List (List UInt8)}(hr:Rise l)(hn:∀s∈l,isName s=true):POk (mk1 g l):=by
 refine⟨fun x hx=> ?_,fun x hx=> ?_,?_⟩
 ·obtain⟨s,hs,rfl⟩:=List.mem_map.1 hx
  exact hn s (List.mem_filter.1 hs).1
 ·obtain⟨s,hs,rfl⟩:=List.mem_map.1 hx
  simpa using(List.mem_filter.1 hs).2
 ·rw[nms_mk1];exact hr.filter _
theorem mk1_get{g:OfQ}{l:List (List UInt8)}(hr:Rise l)(hn:∀s∈l,isName s=true)(s:List UInt8)(h0:0≤(g s).1)(hx:s∉l→(g s).1=0):getQ (mk1 g l) s=(g s).1:=by
 by_cases hs:s∈nms (mk1 g l)
 ·obtain⟨x,hx,e1,e2⟩:=getQ_some hs
  obtain⟨t,ht,rfl⟩:=List.mem_map.1 hx
  rw[e2];simp only at e1⊢;rw[e1]
 ·rw[getQ_none hs]
  rw[nms_mk1]at hs
  by_cases hl:s∈l
  ·have:¬0<(g s).1:=fun h=>hs (List.mem_filter.2 ⟨hl,by simpa using h⟩)
   omega
  ·exact(hx hl).symm
theorem fin_ok{l:List Amount}(h:l.length≤8):finV (l,0)=(l,0):=by
 unfold finV;rw[if_pos rfl,if_neg (by simp only;omega)]
theorem made_two{g:OfQ}{a b:List Amount}(oa:VOk a)(ob:VOk b):madeV g [a,b]=finV (madeF g (namesOf (nms a++nms b)) []):=by
 have e:allNames [a,b]=nms a++nms b:=by simp[allNames]
 unfold madeV
 rw[if_pos (by simp[firstE,ckV_of oa,ckV_of ob]),e]
theorem two_name{a b:List Amount}(oa:VOk a)(ob:VOk b):∀s∈namesOf (nms a++nms b),isName s=true:=fun s hs=>by
 rcases List.mem_append.1 (namesOf_mem.1 hs)with h|h
 ·obtain⟨x,hx,rfl⟩:=List.mem_map.1 h;exact oa.name x hx
 ·obtain⟨x,hx,rfl⟩:=List.mem_map.1 h;exact ob.name x hx
theorem addQ_nn{a b:Int}(ha:0≤a)(hb:0≤b):addQ a b=toldQ (a+b):=by
 unfold addQ bothE;rw[if_neg (show¬a<0 by omega),if_neg (show¬b<0 by omega),if_neg (by simp)]
theorem told_ok{n:Int}(h:n≤9223372036854775807):toldQ n=(n,0):=by unfold toldQ;rw[if_neg (by omega)]
theorem told_zero{n:Int}(h:(toldQ n).2=0):n≤9223372036854775807:=by
 unfold toldQ at h;split at h
 ·cases h
 ·omega
theorem add_nms{a b:List Amount}(oa:VOk a)(ob:VOk b)(hs:∀s,getQ a s+getQ b s≤9223372036854775807):
 (namesOf (nms a++nms b)).filter (fun s=>decide (0<(addQ (getQ a s) (getQ b s)).1))=namesOf (nms a++nms b):=by
 refine List.filter_eq_self.2 fun s hx=> ?_
 have pa:=pok_nn oa.p s
 have pb:=pok_nn ob.p s
 rw[addQ_nn pa pb,told_ok (hs s)]
 have:0<getQ a s+getQ b s:=by
  rcases List.mem_append.1 (namesOf_mem.1 hx)with h|h
  ·have:=(pok_pos oa.p).1 h;omega
  ·have:=(pok_pos ob.p).1 h;omega
 simpa using this
theorem add_ok{a b:List Amount}(oa:VOk a)(ob:VOk b)(hs:∀s,getQ a s+getQ b s≤9223372036854775807)(hl:(namesOf (nms a++nms b)).length≤8):
 ∃r,addV a b=(r,0)∧VOk r∧(∀s,getQ r s=getQ a s+getQ b s)∧nms r=namesOf (nms a++nms b):=by
 have pa:=pok_nn oa.p
 have pb:=pok_nn ob.p
 have hr:=namesOf_rise (nms a++nms b)
 have hn:=two_name oa ob
 have hg:∀s,addQ (getQ a s) (getQ b s)=(getQ a s+getQ b s,0):=fun s=>by rw[addQ_nn (pa s) (pb s),told_ok (hs s)]
 have e2:=nms_mk1 (fun s=>addQ (getQ a s) (getQ b s)) (namesOf (nms a++nms b))
 rw[add_nms oa ob hs]at e2
 have e3:(mk1 (fun s=>addQ (getQ a s) (getQ b s)) (namesOf (nms a++nms b))).length≤8:=by rw[←e2]at hl;simpa using hl
 refine⟨mk1 (fun s=>addQ (getQ a s) (getQ b s)) (namesOf (nms a++nms b)),?_,(mk1_ok hr hn).v e3,fun s=> ?_,e2⟩
 ·unfold addV
  rw[made_two oa ob,madeF_ok _ fun s _=>by simp only[hg],List.nil_append,fin_ok e3]
 ·rw[mk1_get hr hn s (by simp only[hg];have:=pa s;have:=pb s;omega),hg]
  intro hx
  simp only[hg]
  rw[getQ_none fun h=>hx (namesOf_mem.2 (List.mem_append.2 (.inl h))),getQ_none fun h=>hx (namesOf_mem.2 (List.mem_append.2 (.inr h)))]
  rfl
theorem add_zero{a b:List Amount}(oa:VOk a)(ob:VOk b)(h:(addV a b).2=0):(∀s,getQ a s+getQ b s≤9223372036854775807)∧(namesOf (nms a++nms b)).length≤8:=by
 have pa:=pok_nn oa.p
 have pb:=pok_nn ob.p
 unfold addV at h
 rw[made_two oa ob]at h
 have h0:(madeF (fun s=>addQ (getQ a s) (getQ b s)) (namesOf (nms a++nms b)) []).2=0:=by
  unfold finV at h;split at h
  ·rename_i h0;exact h0
  ·exact h
 have h1:=madeF_zero h0
 have hs:∀s,getQ a s+getQ b s≤9223372036854775807:=fun s=>by
  by_cases hm:s∈nms a++nms b
  ·have:=h1 s (namesOf_mem.2 hm)
   simp only[addQ_nn (pa s) (pb s)]at this
   exact told_zero this
  ·rw[getQ_none fun h=>hm (List.mem_append.2 (.inl h)),getQ_none fun h=>hm (List.mem_append.2 (.inr h))];omega
 refine⟨hs,?_⟩
 rw[madeF_ok _ h1,List.nil_append]at h
 have e2:=nms_mk1 (fun s=>addQ (getQ a s) (getQ b s)) (namesOf (nms a++nms b))
 rw[add_nms oa ob hs]at e2
 rw[←e2,List.length_map]
 unfold finV at h
 rw[if_pos rfl]at h
 split at h
 ·cases h
 ·rename_i h3;exact Nat.le_of_not_lt h3
end Go.Aa.T
set_option linter.unusedVariables false
set_option linter.unusedSimpArgs false
set_option maxRecDepth 100000
namespace Go.Aa.T
open Go.Aa Go.Proofs
theorem subQ_le{a b:Int}(ha:0≤a)(hb:0≤b)(h:(subQ a b).2=0):b≤a:=by
 unfold subQ bothE at h
 rw[if_neg (show¬a<0 by omega),if_neg (show¬b<0 by omega),if_neg (by simp)]at h
 split at h
 ·cases h
 ·omega
theorem sub_zero{a b:List Amount}(oa:VOk a)(ob:VOk b)(h:(subV a b).2=0):∀s,getQ b s≤getQ a s:=by
 have pa:=pok_nn oa.p
 have pb:=pok_nn ob.p
 unfold subV at h
 rw[made_two oa ob]at h
 have h0:(madeF (fun s=>subQ (getQ a s) (getQ b s)) (namesOf (nms a++nms b)) []).2=0:=by
  unfold finV at h;split at h
  ·rename_i h0;exact h0
  ·exact h
 have h1:=madeF_zero h0
 intro s
 by_cases hm:s∈nms a++nms b
 ·have h2:=h1 s (namesOf_mem.2 hm)
  exact subQ_le (pa s) (pb s) h2
 ·rw[getQ_none fun h=>hm (List.mem_append.2 (.inl h)),getQ_none fun h=>hm (List.mem_append.2 (.inr h))];omega
end Go.Aa.T
set_option linter.unusedVariables false
set_option linter.unusedSimpArgs false
set_option maxRecDepth 100000
namespace Go.Aa.T
open Go.Aa Go.Proofs
theorem mul_of(a:List Amount)(n:Int)(ha:a.length<9223372036854775807)(ra:∀s,inI (getQ a s))(rn:inI n)(s:List UInt8)(B:List (List AV))(tk:List Nat):
 Does cfg (.call (.c (.func 66 [.ptr 0 0,.ptr 1 0])) [.c (.str s)]) ⟨[encV a]::[.int .i64 n]::B,tk,[]⟩ (.tuple [.int .i64 (mulQ (getQ a s) n).1,.int .i64 (mulQ (getQ a s) n).2]) ⟨[encV a]::[.int .i64 n]::B,tk,[]⟩:=by
 have g1:=getQ_any a s ha
 have g3:=qmul_any _ _ (ra s) rn
 generalize getQ a s=p at g1 g3⊢
 generalize mulQ p n=z at g3⊢
 have key:Goes cfg a66 [.c c66] (initEnv [.str s,.ptr 0 0,.ptr 1 0]) ⟨[encV a]::[.int .i64 n]::B,tk,[]⟩ (fun r=>r=(.ret (.tuple [.int .i64 z.1,.int .i64 z.2]),⟨[encV a]::[.int .i64 n]::B,tk,[]⟩)):=by
  exact let ζ1:Heap:={boxes:=[.sl .sh (a.map encA)]::[.int .i64 n]::B,toks:=tk,loops:=[]:Heap};let ζ2:List AV:=[.int .i64 z.fst,.int .i64 z.snd];let ζ3:List AV:=[.sl .sh (a.map encA),.str s];goG 60 [] trivial (.load (show loadA false 1 ζ1 (.ptr 0 0)=some (.sl .sh (a.map encA))from load_box (cs:=[.sl .sh (a.map encA)]) (by simp+zetaDelta) rfl)<|.callK (ζ3) (.int .i64 p) (show Gives cfg (36:FuncId) ζ3 (.int .i64 p)from g1)<|.load (show loadA false 1 ζ1 (.ptr 1 0)=some (.int .i64 n)from load_box (cs:=[.int .i64 n]) (by simp+zetaDelta) rfl)<|.callI g3<|.fin ((.ret (.tuple ζ2),ζ1)) rfl) (by kernel_rfl)
 obtain⟨r,h,rfl⟩:=key
 have h2:lim cfg (.fn 66) ([.str s]++[.ptr 0 0,.ptr 1 0]) ⟨[encV a]::[.int .i64 n]::B,tk,[]⟩=some (.ret (.tuple [.int .i64 z.1,.int .i64 z.2]),⟨[encV a]::[.int .i64 n]::B,tk,[]⟩):=by
  rw[show([AV.str s]++[.ptr 0 0,.ptr 1 0])=[.str s,.ptr 0 0,.ptr 1 0]from rfl,l66];exact h
 have hd:=does_callE h2 rfl rfl
 rwa [trunc_self]at hd
def timesV(a:List Amount)(n:Int):List Amount×Int:=madeV (fun s=>mulQ (getQ a s) n) [a]
theorem timesV_any(a:List Amount)(n:Int)(ha:a.length<9223372036854775807)(ra:rgA a)(rn:inI n):
 Gives cfg 26 [.sl .sh (a.map encA),.int .i64 n] (.tuple [.sl .sh ((timesV a n).1.map encA),.int .i64 (timesV a n).2]):=by
 refine Gives.run (l26 _ _) ?_
 obtain⟨H',h⟩:=made_any (fun s=>mulQ (getQ a s) n) 66 (encV a) (.int .i64 n) [a] (mul_of a n ha (rg_get ra) rn) (by simp) ⟨rfl,rfl⟩
 have h2:Does cfg (.call (.c (.func 56 [])) [.c (.func 66 [.ptr 0 0,.ptr 1 0]),.c (.sl .sh [.sl .sh (a.map encA)])]) ⟨[[.sl .sh (a.map encA)],[.int .i64 n]],[],[]⟩ (.tuple [.sl .sh ((timesV a n).1.map encA),.int .i64 (timesV a n).2]) H':=h
 have h3:Does cfg (.call (.c (.func 56 [])) [.c (.func 66 [.ptr 0 0,.ptr 1 0]),.c (.sl .full [.sl .sh (a.map encA)])]) ⟨[[.sl .sh (a.map encA)],[.int .i64 n]],[],[]⟩ (.tuple [.sl .sh ((timesV a n).1.map encA),.int .i64 (timesV a n).2]) H':=fun T=>h2 T
 generalize timesV a n=z at h3⊢
 exact let ζ1:List AV:=[.sl .sh (z.fst.map encA),.int .i64 z.snd];goG 60 [] trivial (.effY (show Does cfg (.call (.c (.func (56:FuncId) [])) [.c (.func (66:FuncId) [.ptr 0 0,.ptr 1 0]),.c (.sl .full [.sl .sh (a.map encA)])]) {boxes:=[[.sl .sh (a.map encA)],[.int .i64 n]],toks:=[],loops:=[]:Heap} (.tuple ζ1) H' from h3)<|.fin ((.ret (.tuple ζ1),H')) rfl) (by kernel_rfl)
theorem part_of(a:List Amount)(n:Int)(ha:a.length<9223372036854775807)(ra:∀s,inI (getQ a s))(rn:inI n)(s:List UInt8)(B:List (List AV))(tk:List Nat):
 Does cfg (.call (.c (.func 69 [.ptr 0 0,.ptr 1 0])) [.c (.str s)]) ⟨[encV a]::[.int .i64 n]::B,tk,[]⟩ (.tuple [.int .i64 (partQ (getQ a s) n).1,.int .i64 (partQ (getQ a s) n).2]) ⟨[encV a]::[.int .i64 n]::B,tk,[]⟩:=by
 have g1:=getQ_any a s ha
 have g3:=qpart_any _ _ (ra s) rn
 generalize getQ a s=p at g1 g3⊢
 generalize partQ p n=z at g3⊢
 have key:Goes cfg a69 [.c c69] (initEnv [.str s,.ptr 0 0,.ptr 1 0]) ⟨[encV a]::[.int .i64 n]::B,tk,[]⟩ (fun r=>r=(.ret (.tuple [.int .i64 z.1,.int .i64 z.2]),⟨[encV a]::[.int .i64 n]::B,tk,[]⟩)):=by
  exact let ζ1:Heap:={boxes:=[.sl .sh (a.map encA)]::[.int .i64 n]::B,toks:=tk,loops:=[]:Heap};let ζ2:List AV:=[.int .i64 z.fst,.int .i64 z.snd];let ζ3:List AV:=[.sl .sh (a.map encA),.str s];goG 60 [] trivial (.load (show loadA false 1 ζ1 (.ptr 0 0)=some (.sl .sh (a.map encA))from load_box (cs:=[.sl .sh (a.map encA)]) (by simp+zetaDelta) rfl)<|.callK (ζ3) (.int .i64 p) (show Gives cfg (36:FuncId) ζ3 (.int .i64 p)from g1)<|.load (show loadA false 1 ζ1 (.ptr 1 0)=some (.int .i64 n)from load_box (cs:=[.int .i64 n]) (by simp+zetaDelta) rfl)<|.callI g3<|.fin ((.ret (.tuple ζ2),ζ1)) rfl) (by kernel_rfl)
 obtain⟨r,h,rfl⟩:=key
 have h2:lim cfg (.fn 69) ([.str s]++[.ptr 0 0,.ptr 1 0]) ⟨[encV a]::[.int .i64 n]::B,tk,[]⟩=some (.ret (.tuple [.int .i64 z.1,.int .i64 z.2]),⟨[encV a]::[.int .i64 n]::B,tk,[]⟩):=by
  rw[show([AV.str s]++[.ptr 0 0,.ptr 1 0])=[.str s,.ptr 0 0,.ptr 1 0]from rfl,l69];exact h
 have hd:=does_callE h2 rfl rfl
 rwa [trunc_self]at hd
def partV(a:List Amount)(n:Int):List Amount×Int:=madeV (fun s=>partQ (getQ a s) n) [a]
theorem partV_any(a:List Amount)(n:Int)(ha:a.length<9223372036854775807)(ra:rgA a)(rn:inI n):
 Gives cfg 28 [.sl .sh (a.map encA),.int .i64 n] (.tuple [.sl .sh ((partV a n).1.map encA),.int .i64 (partV a n).2]):=by
 refine Gives.run (l28 _ _) ?_
 obtain⟨H',h⟩:=made_any (fun s=>partQ (getQ a s) n) 69 (encV a) (.int .i64 n) [a] (part_of a n ha (rg_get ra) rn) (by simp) ⟨rfl,rfl⟩
 have h2:Does cfg (.call (.c (.func 56 [])) [.c (.func 69 [.ptr 0 0,.ptr 1 0]),.c (.sl .sh [.sl .sh (a.map encA)])]) ⟨[[.sl .sh (a.map encA)],[.int .i64 n]],[],[]⟩ (.tuple [.sl .sh ((partV a n).1.map encA),.int .i64 (partV a n).2]) H':=h
 have h3:Does cfg (.call (.c (.func 56 [])) [.c (.func 69 [.ptr 0 0,.ptr 1 0]),.c (.sl .full [.sl .sh (a.map encA)])]) ⟨[[.sl .sh (a.map encA)],[.int .i64 n]],[],[]⟩ (.tuple [.sl .sh ((partV a n).1.map encA),.int .i64 (partV a n).2]) H':=fun T=>h2 T
 generalize partV a n=z at h3⊢
 exact let ζ1:List AV:=[.sl .sh (z.fst.map encA),.int .i64 z.snd];goG 60 [] trivial (.effY (show Does cfg (.call (.c (.func (56:FuncId) [])) [.c (.func (69:FuncId) [.ptr 0 0,.ptr 1 0]),.c (.sl .full [.sl .sh (a.map encA)])]) {boxes:=[[.sl .sh (a.map encA)],[.int .i64 n]],toks:=[],loops:=[]:Heap} (.tuple ζ1) H' from h3)<|.fin ((.ret (.tuple ζ1),H')) rfl) (by kernel_rfl)
end Go.Aa.T
set_option linter.unusedVariables false
set_option linter.unusedSimpArgs false
set_option maxRecDepth 100000
namespace Go.Aa.T
open Go.Aa Go.Proofs
theorem names_one{a:List Amount}(oa:VOk a):namesOf (allNames [a])=nms a:=by
 have e:allNames [a]=nms a:=by simp[allNames]
 rw[e]
 exact namesOf_eq oa.rise fun x=>Iff.rfl
theorem made_one{g:OfQ}{a:List Amount}(oa:VOk a):madeV g [a]=finV (madeF g (nms a) []):=by
 unfold madeV
 rw[if_pos (by simp[firstE,ckV_of oa]),names_one oa]
theorem mk1_len(g:OfQ)(l:List (List UInt8)):(mk1 g l).length≤l.length:=by
 unfold mk1
 rw[List.length_map]
 exact List.length_filter_le _ _
theorem nms_name{a:List Amount}(oa:VOk a):∀s∈nms a,isName s=true:=fun s hs=>by
 obtain⟨x,hx,rfl⟩:=List.mem_map.1 hs;exact oa.name x hx
theorem one_ok{g:OfQ}{a:List Amount}(oa:VOk a)(h:∀s∈nms a,(g s).2=0):madeV g [a]=(mk1 g (nms a),0)∧VOk (mk1 g (nms a)):=by
 have hl:=mk1_len g (nms a)
 have hl2:(nms a).length≤8:=by rw[show nms a=a.map (·.name)from rfl,List.length_map];exact oa.len
 refine⟨?_,(mk1_ok oa.rise (nms_name oa)).v (by omega)⟩
 rw[made_one oa,madeF_ok _ h,List.nil_append,fin_ok (by omega)]
theorem madeF_err{g:OfQ}{E:Int}:∀{l:List (List UInt8)}(acc:List Amount),(∀s∈l,(g s).2=0∨(g s).2=E)→(∃s∈l,(g s).2≠0)→madeF g l acc=([],E)
 |[],acc,_,⟨s,hs,_⟩=>by cases hs
 |t::l,acc,h,⟨s,hs,hn⟩=>by
  unfold madeF
  split
  ·rename_i h0
   refine madeF_err _ (fun x hx=>h x (by simp[hx])) ?_
   rcases List.mem_cons.1 hs with rfl|hs
   ·exact absurd h0 hn
   ·exact⟨s,hs,hn⟩
  ·rename_i h0
   rcases h t (by simp)with h1|h1
   ·exact absurd h1 h0
   ·rw[h1]
theorem mulQ_nn{a b:Int}(ha:0≤a)(hb:0≤b):mulQ a b=toldQ (a*b):=by
 unfold mulQ bothE;rw[if_neg (show¬a<0 by omega),if_neg (show¬b<0 by omega),if_neg (by simp)]
theorem partQ_nn{a b:Int}(ha:0≤a)(hb:0≤b):partQ a b=toldQ (a*b/1000):=by
 unfold partQ bothE;rw[if_neg (show¬a<0 by omega),if_neg (show¬b<0 by omega),if_neg (by simp)]
theorem told_two(n:Int):(toldQ n).2=0∨(toldQ n).2=5:=by unfold toldQ;split<;>simp
def kV(k:Int)(v:List Amount):List Amount:=mk1 (fun s=>(getQ v s*k,0)) (nms v)
theorem kV_ok{v:List Amount}(ov:VOk v){k:Int}(hk:0≤k):VOk (kV k v)∧∀s,getQ (kV k v) s=getQ v s*k:=by
 obtain⟨-,h2⟩:=one_ok (g:=fun s=>(getQ v s*k,0)) ov (fun s _=>rfl)
 refine⟨h2,fun s=> ?_⟩
 have hn:0≤getQ v s:=pok_nn ov.p s
 exact mk1_get ov.rise (nms_name ov) s (Int.mul_nonneg hn hk) fun hx=>by
  simp only
  rw[getQ_none hx,Int.zero_mul]
theorem kV_zero(v:List Amount):kV 0 v=[]:=by
 unfold kV mk1
 rw[List.filter_eq_nil_iff.2 (fun s _=>by simp)]
 rfl
theorem mk1_congr{g h:OfQ}{l:List (List UInt8)}(e:∀s∈l,(g s).1=(h s).1):mk1 g l=mk1 h l:=by
 unfold mk1
 rw[List.filter_congr (q:=fun s=>decide (0<(h s).1)) (fun s hs=>by rw[e s hs])]
 exact List.map_congr_left fun s hs=>by rw[e s (List.mem_filter.1 hs).1]
theorem times_ok{v:List Amount}(ov:VOk v){k:Int}(hk:0≤k)(h:∀s,getQ v s*k≤9223372036854775807):timesV v k=(kV k v,0):=by
 have hg:∀s,mulQ (getQ v s) k=(getQ v s*k,0):=fun s=>by rw[mulQ_nn (pok_nn ov.p s) hk,told_ok (h s)]
 unfold timesV
 rw[(one_ok ov fun s _=>by rw[hg]).1]
 unfold kV
 rw[mk1_congr (h:=fun s=>(getQ v s*k,0)) fun s _=>by rw[hg]]
theorem times_over{v:List Amount}(ov:VOk v){k:Int}(hk:0≤k){s:List UInt8}(h:9223372036854775807<getQ v s*k):timesV v k=([],5):=by
 have hs:s∈nms v:=Classical.byContradiction fun hx=>by rw[getQ_none hx,Int.zero_mul]at h;omega
 unfold timesV
 rw[made_one ov,madeF_err (E:=5) [] (fun t _=>by rw[mulQ_nn (pok_nn ov.p t) hk];exact told_two _) ⟨s,hs,by rw[mulQ_nn (pok_nn ov.p s) hk];unfold toldQ;rw[if_pos h];simp⟩]
 rfl
theorem part_all{v:List Amount}(ov:VOk v)(rv:rgA v):partV v 1000=(v,0):=by
 have hg:∀s,partQ (getQ v s) 1000=(getQ v s,0):=fun s=>by
  have h1:=pok_nn ov.p s
  have h2:=(rg_get rv s).2
  rw[partQ_nn h1 (by decide),told_ok (by omega),show getQ v s*1000/1000=getQ v s by omega]
 unfold partV
 obtain⟨e,o⟩:=one_ok (g:=fun s=>partQ (getQ v s) 1000) ov fun s _=>by simp only[hg]
 rw[e]
 congr 1
 refine pok_ext o.p ov.p fun s=> ?_
 rw[mk1_get ov.rise (nms_name ov) s (by simp only[hg];exact pok_nn ov.p s) fun hx=>by simp only[hg];exact getQ_none hx]
 simp only[hg]
theorem part_none{v:List Amount}(ov:VOk v):partV v 0=([],0):=by
 have hg:∀s,partQ (getQ v s) 0=(0,0):=fun s=>by
  rw[partQ_nn (pok_nn ov.p s) (by decide),Int.mul_zero];rfl
 unfold partV
 rw[(one_ok (g:=fun s=>partQ (getQ v s) 0) ov fun s _=>by simp only[hg]).1]
 congr 1
 unfold mk1
 rw[List.filter_eq_nil_iff.2 (fun s _=>by simp only[hg];simp)]
 rfl
theorem kV_names{v:List Amount}(k:Int):∀x∈nms (kV k v),x∈nms v:=by
 unfold kV
 rw[nms_mk1]
 exact fun x hx=>(List.mem_filter.1 hx).1
theorem kV_next{v:List Amount}(ov:VOk v){k:Int}(hk:0≤k)(h:∀s,getQ v s*(k+1)≤9223372036854775807):addV (kV k v) v=(kV (k+1) v,0):=by
 obtain⟨o1,g1⟩:=kV_ok ov hk
 obtain⟨o2,g2⟩:=kV_ok ov (k:=k+1) (by omega)
 have hl:(namesOf (nms (kV k v)++nms v)).length≤8:=by
  refine Nat.le_trans (names_sub (m:=nms v) fun x hx=> ?_) ?_
  ·rcases List.mem_append.1 hx with hx|hx
   ·exact kV_names k x hx
   ·exact hx
  ·rw[namesOf_eq ov.rise fun x=>Iff.rfl,show nms v=v.map (·.name)from rfl,List.length_map];exact ov.len
 obtain⟨r,e,or,hr,-⟩:=add_ok o1 ov (fun s=>by rw[g1];have:=h s;rw[Int.mul_add,Int.mul_one]at this;exact this) hl
 rw[e,pok_ext or.p o2.p fun s=>by rw[hr,g1,g2,Int.mul_add,Int.mul_one]]
theorem kV_over{v:List Amount}(ov:VOk v){k m:Int}(hk:0≤k)(hm:k<m)(h:(addV (kV k v) v).2≠0):timesV v m=([],5):=by
 have:∃s,9223372036854775807<getQ v s*(k+1):=Classical.byContradiction fun hx=>by
  refine h ?_
  rw[kV_next ov hk fun s=>Int.not_lt.1 fun hh=>hx ⟨s,hh⟩]
 obtain⟨s,hs⟩:=this
 refine times_over ov (by omega) (s:=s) (Int.lt_of_lt_of_le hs ?_)
 exact Int.mul_le_mul_of_nonneg_left (by omega) (pok_nn ov.p s)
theorem kV_rg{v:List Amount}{k:Int}(hk:0≤k)(ov:VOk v)(h:∀s,getQ v s*k≤9223372036854775807):rgA (kV k v):=by
 intro x hx
 obtain⟨o,g⟩:=kV_ok ov hk
 have e:=getQ_mem o.rise x hx
 rw[g]at e
 have h1:=h x.name
 have h2:0≤getQ v x.name*k:=Int.mul_nonneg (pok_nn ov.p _) hk
 unfold inI
 omega
end Go.Aa.T
set_option linter.unusedVariables false
set_option linter.unusedSimpArgs false
set_option maxRecDepth 100000
namespace Go.Aa.T
open Go.Aa Go.Proofs
theorem known12':Gives cfg 12 [] (.bool true):=by
 obtain⟨H,h⟩:=known_ret12
 exact Gives.of h
theorem parts_end(v:List Amount)(ov:VOk v)(rv:rgA v)(k:Nat)(hk:k≤11)(hs:∀s,getQ v s*(k:Int)≤9223372036854775807)(T:Env)
 (hT:Has T [(0,.sl .sh (v.map encA)),(5,.int .i64 k),(6,.sl .sh ((kV k v).map encA)),(7,.int .i64 k)]):Goes cfg a5 k5_0 T Heap.nil (IsRet (.bool true)):=by
 have ok:=(kV_ok ov (k:=(k:Int)) (by omega)).1
 have t1:=timesV_any v k (by have:=ov.len;omega) rv (by unfold inI;omega)
 rw[times_ok ov (by omega) hs]at t1
 have t1:Gives cfg 26 [.sl .sh (v.map encA),.int .i64 (k:Int)] (.tuple [.sl .sh ((kV k v).map encA),.int .i64 0]):=t1
 have t2:=partV_any v 1000 (by have:=ov.len;omega) rv (by unfold inI;omega)
 rw[part_all ov rv]at t2
 have t2:Gives cfg 28 [.sl .sh (v.map encA),.int .i64 1000] (.tuple [.sl .sh (v.map encA),.int .i64 0]):=t2
 have t3:=partV_any v 0 (by have:=ov.len;omega) rv (by unfold inI;omega)
 rw[part_none ov]at t3
 have t3:Gives cfg 28 [.sl .sh (v.map encA),.int .i64 0] (.tuple [.sl .sh [],.int .i64 0]):=t3
 have s1:=sameV (kV k v) (kV k v) (by have:=ok.len;omega)
 rw[same2_refl eqA_iff]at s1
 have s2:=sameV v v (by have:=ov.len;omega)
 rw[same2_refl eqA_iff]at s2
 have l0:lenA false (AV.sl .sh [])=some (.int .i64 0):=rfl
 exact let ζ1:List AV:=[.sl .sh (v.map encA),.int .i64 0];let ζ2:List AV:=[.sl .sh (List.map encA (kV (↑k:Int) v)),.sl .sh (List.map encA (kV (↑k:Int) v))];let ζ3:List AV:=[.sl .sh (List.map encA (kV (↑k:Int) v)),.int .i64 0];let ζ4:List AV:=[.sl .sh (v.map encA),.sl .sh (v.map encA)];let ζ5:List AV:=[.sl .sh (v.map encA),.int .i64 ↑k];let ζ6:List AV:=[.sl .sh (v.map encA),.int .i64 1000];goG 120 [(0,.sl .sh (v.map encA)),(5,.int .i64 k),(6,.sl .sh ((kV k v).map encA)),(7,.int .i64 k)] hT (.no (show(decide ((↑k:Int)<(↑k:Int)))=false from decide_eq_false (by simp+zetaDelta))<|.callK (ζ5) (.tuple ζ3) (show Gives cfg (26:FuncId) ζ5 (.tuple ζ3)from t1)<|.callK (ζ6) (.tuple ζ1) (show Gives cfg (28:FuncId) ζ6 (.tuple ζ1)from t2)<|.callK (ζ1) (.tuple [.sl .sh [],.int .i64 0]) (show Gives cfg (28:FuncId) ζ1 (.tuple [.sl .sh [],.int .i64 0])from t3)<|.bin (show binA .add (.int .i64 0) (.int .i64 0)=some (.int .i64 ((0:Int)+(0:Int)))from addI (by simp+zetaDelta) (by simp+zetaDelta))<|.bin (show binA .add (.int .i64 ((0:Int)+(0:Int))) (.int .i64 0)=some (.int .i64 ((0:Int)+(0:Int)+(0:Int)))from addI (by simp+zetaDelta) (by simp+zetaDelta))<|.tt<|.callK (ζ2) (.bool true) (show Gives cfg (17:FuncId) ζ2 (.bool true)from s1)<|.tt<|.callK (ζ4) (.bool true) (show Gives cfg (17:FuncId) ζ4 (.bool true)from s2)<|.tt<|.len (show lenA false (.sl .sh [])=some (.int .i64 0)from l0)<|.fin ((.ret (.bool ((0:Int)==(0:Int))),{boxes:=[],toks:=[],loops:=[]:Heap})) rfl) (by kernel_rfl)
theorem parts_loop(v:List Amount)(ov:VOk v)(rv:rgA v)(k:Nat)(hk:k≤11):∀(d i:Nat),i+d=k→(∀s,getQ v s*(i:Int)≤9223372036854775807)→∀(T:Env)
 (hT:Has T [(0,.sl .sh (v.map encA)),(5,.int .i64 k),(6,.sl .sh ((kV i v).map encA)),(7,.int .i64 i)]),Goes cfg a5 k5_0 T Heap.nil (IsRet (.bool true)):=by
 intro d
 induction d with
 |zero=>
  intro i hd hs T hT
  have:i=k:=by omega
  subst this
  exact parts_end v ov rv i hk hs T hT
 |succ d ih=>
  intro i hd hs T hT
  obtain⟨o1,g1⟩:=kV_ok ov (k:=(i:Int)) (by omega)
  have ad:=addV_any (kV i v) v (by have:=o1.len;omega) (by have:=ov.len;omega) (kV_rg (by omega) ov hs) rv
  by_cases hn:∀s,getQ v s*((i:Int)+1)≤9223372036854775807
  ·have ih':=ih (i+1) (by omega) (by intro s;have:=hn s;rw[show((i+1:Nat):Int)=(i:Int)+1 by omega];exact this)
   rw[kV_next ov (by omega) hn]at ad
   rw[show((i+1:Nat):Int)=(i:Int)+1 by omega]at ih'
   have ad:Gives cfg 21 [.sl .sh ((kV i v).map encA),.sl .sh (v.map encA)] (.tuple [.sl .sh ((kV (i+1) v).map encA),.int .i64 0]):=ad
   have hi:binA .add (.int .i64 (i:Int)) (.int .i64 1)=some (.int .i64 ((i:Int)+1)):=addI (by omega) (by omega)
   exact let ζ1:List AV:=[.sl .sh (List.map encA (kV (↑i:Int) v)),.sl .sh (v.map encA)];let ζ2:List AV:=[.sl .sh (List.map encA (kV ((↑i:Int)+(1:Int)) v)),.int .i64 0];goG 120 [(0,.sl .sh (v.map encA)),(5,.int .i64 k),(6,.sl .sh ((kV i v).map encA)),(7,.int .i64 i)] hT (.yes (show(decide ((↑i:Int)<(↑k:Int)))=true from decide_eq_true (by omega))<|.callK (ζ1) (.tuple ζ2) (show Gives cfg (21:FuncId) ζ1 (.tuple ζ2)from ad)<|.ff<|.bin (show binA .add (.int .i64 ↑i) (.int .i64 1)=some (.int .i64 ((↑i:Int)+(1:Int)))from hi)<|.cutQ k5_0 [(0,.sl .sh (v.map encA)),(5,.int .i64 ↑k),(6,.sl .sh (List.map encA (kV ((↑i:Int)+(1:Int)) v))),(7,.int .i64 ((↑i:Int)+(1:Int)))] ({boxes:=[],toks:=[],loops:=[]:Heap}) (fun T hT=>(ih' T hT))) (by kernel_rfl)
  ·have h0:(addV (kV i v) v).2≠0:=fun h=>hn fun s=>by
    have:=(add_zero o1 ov h).1 s
    rw[g1]at this
    rw[Int.mul_add,Int.mul_one]
    exact this
   have ht:=timesV_any v k (by have:=ov.len;omega) rv (by unfold inI;omega)
   rw[kV_over ov (by omega) (show(i:Int)<(k:Int)by omega) h0]at ht
   have ht:Gives cfg 26 [.sl .sh (v.map encA),.int .i64 (k:Int)] (.tuple [.sl .sh [],.int .i64 5]):=ht
   generalize addV (kV i v) v=z at ad h0
   obtain⟨z,e⟩:=z
   have h0:¬e=0:=h0
   have ad:Gives cfg 21 [.sl .sh ((kV i v).map encA),.sl .sh (v.map encA)] (.tuple [.sl .sh (z.map encA),.int .i64 e]):=ad
   exact let ζ1:List AV:=[.sl .sh (List.map encA (kV (↑i:Int) v)),.sl .sh (v.map encA)];let ζ2:List AV:=[.sl .sh (v.map encA),.int .i64 ↑k];let ζ3:List AV:=[.sl .sh (z.map encA),.int .i64 e];goG 120 [(0,.sl .sh (v.map encA)),(5,.int .i64 k),(6,.sl .sh ((kV i v).map encA)),(7,.int .i64 i)] hT (.yes (show(decide ((↑i:Int)<(↑k:Int)))=true from decide_eq_true (by omega))<|.callK (ζ1) (.tuple ζ3) (show Gives cfg (21:FuncId) ζ1 (.tuple ζ3)from ad)<|.yes (show(e !=(0:Int))=true from(by simpa using h0))<|.callK (ζ2) (.tuple [.sl .sh [],.int .i64 5]) (show Gives cfg (26:FuncId) ζ2 (.tuple [.sl .sh [],.int .i64 5])from ht)<|.fin ((.ret (.bool ((5:Int)==(5:Int))),{boxes:=[],toks:=[],loops:=[]:Heap})) rfl) (by kernel_rfl)
theorem parts_end0(v:List Amount)(ov:VOk v)(rv:rgA v)(T:Env)
 (hT:Has T [(0,.sl .sh (v.map encA)),(5,.int .i64 0),(6,.sl .full []),(7,.int .i64 0)]):Goes cfg a5 k5_0 T Heap.nil (IsRet (.bool true)):=by
 have t1:=timesV_any v 0 (by have:=ov.len;omega) rv (by unfold inI;omega)
 rw[times_ok ov (by omega) (fun s=>by simp),kV_zero]at t1
 have t1:Gives cfg 26 [.sl .sh (v.map encA),.int .i64 0] (.tuple [.sl .sh [],.int .i64 0]):=t1
 have t2:=partV_any v 1000 (by have:=ov.len;omega) rv (by unfold inI;omega)
 rw[part_all ov rv]at t2
 have t2:Gives cfg 28 [.sl .sh (v.map encA),.int .i64 1000] (.tuple [.sl .sh (v.map encA),.int .i64 0]):=t2
 have t3:=partV_any v 0 (by have:=ov.len;omega) rv (by unfold inI;omega)
 rw[part_none ov]at t3
 have t3:Gives cfg 28 [.sl .sh (v.map encA),.int .i64 0] (.tuple [.sl .sh [],.int .i64 0]):=t3
 have s1:=sameV [] [] (by simp)
 rw[same2_refl eqA_iff]at s1
 have s1:Gives cfg 17 [.sl .sh [],.sl .sh []] (.bool true):=s1
 have s2:=sameV v v (by have:=ov.len;omega)
 rw[same2_refl eqA_iff]at s2
 have l0:lenA false (AV.sl .sh [])=some (.int .i64 0):=rfl
 exact let ζ1:List AV:=[.sl .sh (v.map encA),.int .i64 0];let ζ2:List AV:=[.sl .sh (v.map encA),.sl .sh (v.map encA)];let ζ3:List AV:=[.sl .sh (v.map encA),.int .i64 1000];goG 120 [(0,.sl .sh (v.map encA)),(5,.int .i64 0),(6,.sl .full []),(7,.int .i64 0)] hT (.ff<|.callK (ζ1) (.tuple [.sl .sh [],.int .i64 0]) (show Gives cfg (26:FuncId) ζ1 (.tuple [.sl .sh [],.int .i64 0])from t1)<|.callK (ζ3) (.tuple ζ1) (show Gives cfg (28:FuncId) ζ3 (.tuple ζ1)from t2)<|.callK (ζ1) (.tuple [.sl .sh [],.int .i64 0]) (show Gives cfg (28:FuncId) ζ1 (.tuple [.sl .sh [],.int .i64 0])from t3)<|.bin (show binA .add (.int .i64 0) (.int .i64 0)=some (.int .i64 ((0:Int)+(0:Int)))from addI (by simp+zetaDelta) (by simp+zetaDelta))<|.bin (show binA .add (.int .i64 ((0:Int)+(0:Int))) (.int .i64 0)=some (.int .i64 ((0:Int)+(0:Int)+(0:Int)))from addI (by simp+zetaDelta) (by simp+zetaDelta))<|.tt<|.callK ([.sl .sh [],.sl .full []]) (.bool true) (show Gives cfg (17:FuncId) [.sl .sh [],.sl .sh []] (.bool true)from s1)<|.tt<|.callK (ζ2) (.bool true) (show Gives cfg (17:FuncId) ζ2 (.bool true)from s2)<|.tt<|.len (show lenA false (.sl .sh [])=some (.int .i64 0)from l0)<|.fin ((.ret (.bool ((0:Int)==(0:Int))),{boxes:=[],toks:=[],loops:=[]:Heap})) rfl) (by kernel_rfl)
theorem parts_first(v:List Amount)(ov:VOk v)(rv:rgA v)(k:Nat)(hk:k≤11)(T:Env)
 (hT:Has T [(0,.sl .sh (v.map encA)),(5,.int .i64 k),(6,.sl .full []),(7,.int .i64 0)]):Goes cfg a5 k5_0 T Heap.nil (IsRet (.bool true)):=by
 by_cases h0:k=0
 ·subst h0
  exact parts_end0 v ov rv T hT
 have hv:∀s,getQ v s*((1:Nat):Int)≤9223372036854775807:=fun s=>by
  have:=(rg_get rv s).2
  omega
 have ih':=parts_loop v ov rv k hk (k-1) 1 (by omega) hv
 have ad:=addV_any [] v (by simp) (by have:=ov.len;omega) (fun x hx=>by cases hx) rv
 have hn:=kV_next ov (k:=0) (by omega) (fun s=>by have:=hv s;omega)
 rw[kV_zero]at hn
 rw[hn]at ad
 have ad:Gives cfg 21 [.sl .sh [],.sl .sh (v.map encA)] (.tuple [.sl .sh ((kV ((1:Nat):Int) v).map encA),.int .i64 0]):=ad
 generalize kV ((1:Nat):Int) v=w at ad ih'
 have ih':∀T:Env,Has T [(0,.sl .sh (v.map encA)),(5,.int .i64 k),(6,.sl .sh (w.map encA)),(7,.int .i64 1)]→Goes cfg a5 k5_0 T Heap.nil (IsRet (.bool true)):=ih'
 exact let ζ1:List AV:=[.sl .sh (w.map encA),.int .i64 0];goG 120 [(0,.sl .sh (v.map encA)),(5,.int .i64 k),(6,.sl .full []),(7,.int .i64 0)] hT (.yes (show(decide ((0:Int)<(↑k:Int)))=true from decide_eq_true (by omega))<|.callK ([.sl .full [],.sl .sh (v.map encA)]) (.tuple ζ1) (show Gives cfg (21:FuncId) [.sl .sh [],.sl .sh (v.map encA)] (.tuple ζ1)from ad)<|.ff<|.bin (show binA .add (.int .i64 0) (.int .i64 1)=some (.int .i64 (↑(nat_lit 0+(1:Nat)):Int))from inc_i (by simp+zetaDelta))<|.cutQ k5_0 [(0,.sl .sh (v.map encA)),(5,.int .i64 ↑k),(6,.sl .sh (w.map encA)),(7,.int .i64 (↑(nat_lit 0+(1:Nat)):Int))] ({boxes:=[],toks:=[],loops:=[]:Heap}) (fun T hT=>(ih' T hT))) (by kernel_rfl)
theorem resParts(v:List Amount)(n:Int)(rv:rgA v)(h0:0≤n)(h1:n≤255):Gives cfg 5 [.sl .sh (v.map encA),.int .u8 n] (.bool true):=by
 refine Gives.run (l5 _ _) ?_
 have f1:=fewA_any v
 cases hf:fewA v with
 |false=>
  rw[hf]at f1
  exact goG 120 [] trivial (.callI known12'<|.ff<|.callI f1<|.tt<|.tt<|.fin ((.ret (.bool true),{boxes:=[],toks:=[],loops:=[]:Heap})) rfl) (by kernel_rfl)
 |true=>
  rw[hf]at f1
  have la:=fewA_len hf
  have o1:=ofA_any v la
  have k1:=ckV_ref v
  by_cases e1:ckV v=0
  ·rw[e1]at k1
   have ov:=vOk e1
   obtain⟨m,rfl⟩:∃m:Nat,n=m:=⟨n.toNat,by omega⟩
   have hr:binA .rem (.int .u8 (m:Int)) (.int .u8 12)=some (.int .u8 ((m%12:Nat):Int)):=rem_nat (m:=12) (by decide)
   have hc:convA (.int .i64) (.int .u8 ((m%12:Nat):Int))=some (.int .i64 ((m%12:Nat):Int)):=conv_i64 (by omega)
   have lp:=parts_first v ov rv (m%12) (by omega)
   generalize m%12=q at hr hc lp
   exact goG 120 [] trivial (.callI known12'<|.ff<|.callI f1<|.ff<|.callG ([.sl .sh (v.map encA)]) (.sl .sh (v.map encA)) (show Gives cfg (14:FuncId) [.sl .sh (v.map encA)] (rowS Heap.nil (v.map encA))from o1) ⟨rfl,rfl⟩ Res.p<|.callI k1<|.ff<|.bin (show binA .rem (.int .u8 ↑m) (.int .u8 12)=some (.int .u8 ↑q)from hr)<|.conv (show convA (CV.int IntKind.i64) (.int .u8 ↑q)=some (.int .i64 ↑q)from hc)<|.cutQ k5_0 [(0,.sl .sh (v.map encA)),(5,.int .i64 ↑q),(6,.sl .full []),(7,.int .i64 0)] ({boxes:=[],toks:=[],loops:=[]:Heap}) (fun T hT=>(lp T hT))) (by kernel_rfl)
  ·generalize ckV v=e at k1 e1
   exact goG 160 [] trivial (.callI known12'<|.ff<|.callI f1<|.ff<|.callG ([.sl .sh (v.map encA)]) (.sl .sh (v.map encA)) (show Gives cfg (14:FuncId) [.sl .sh (v.map encA)] (rowS Heap.nil (v.map encA))from o1) ⟨rfl,rfl⟩ Res.p<|.callI k1<|.yes (show(e !=(0:Int))=true from(by simpa using e1))<|.fin ((.ret (.bool true),{boxes:=[],toks:=[],loops:=[]:Heap})) rfl) (by kernel_rfl)
end Go.Aa.T
set_option linter.unusedVariables false
set_option linter.unusedSimpArgs false
set_option maxRecDepth 100000
namespace Go.Aa.T
open Go.Aa Go.Proofs
theorem map_of2{α:Type}{f:α→AV}{Q:AV→Prop}{S:α→Prop}(h:∀y,Q y→∃x,y=f x∧S x):∀(l:List AV),(∀y∈l,Q y)→∃t:List α,l=t.map f∧∀x∈t,S x
 |[],_=>⟨[],rfl,by simp⟩
 |y::l,hl=>by
  obtain⟨x,rfl,hx⟩:=h y (hl y (by simp))
  obtain⟨t,rfl,ht⟩:=map_of2 h l (fun z hz=>hl z (by simp[hz]))
  exact⟨x::t,rfl,by simpa using⟨hx,ht⟩⟩
theorem i64_range{m:Int}(h:(Lit.int .i64 m).wf=true): -9223372036854775808≤m∧m≤9223372036854775807:=by
 have h':IntKind.i64.min≤m∧m≤IntKind.i64.max:=by simpa[Lit.wf,IntKind.has]using h
 have e1:IntKind.i64.min= -9223372036854775808:=rfl
 have e2:IntKind.i64.max=9223372036854775807:=rfl
 omega
theorem tys2{R:TypeId→List AV→Prop}{f1 f2:Field}{cs:List AV}(h:Tys R (#[f1,f2]:Array Field).toList cs):∃a1 a2,cs=a1++(a2)∧R f1.type a1∧R f2.type a2:=by
 obtain⟨a1,b1,rfl,h1,a2,b2,rfl,h2,e⟩:=(show Tys R [f1,f2] cs from h)
 cases e
 exact⟨a1,a2,by simp,h1,h2⟩
theorem ty81{k:Nat}{y:AV}(h:TyV Tryz.prog (k+2) 81 y):∃x:Amount,y=encA x∧(-9223372036854775808≤x.n∧x.n≤9223372036854775807):=by
 obtain⟨cs,rfl,hh⟩:=tyv_struct Tryz.underlying81 h
 obtain⟨a1,a2,rfl,h1,h2⟩:=tys2 hh
 obtain⟨s1,rfl,-⟩:=ty_string Tryz.underlying9 h1
 obtain⟨s2,rfl,w2⟩:=ty_int Tryz.underlying2 h2
 have r2:=i64_range w2
 exact⟨⟨s1,s2⟩,rfl,r2⟩
theorem ty23{k:Nat}{y:AV}(h:TyV Tryz.prog (k+3) 23 y):∃t:List Amount,y=.sl .sh (t.map encA)∧∀x∈t,-9223372036854775808≤x.n∧x.n≤9223372036854775807:=by
 obtain⟨l,rfl,-,hl⟩:=tyv_slice Tryz.underlying23 h
 obtain⟨t,rfl,hs⟩:=map_of2 (S:=fun x:Amount=> -9223372036854775808≤x.n∧x.n≤9223372036854775807) (fun y hy=>ty81 hy) l hl
 exact⟨t,rfl,hs⟩
theorem u8_range{m:Int}(h:(Lit.int .u8 m).wf=true):0≤m∧m≤255:=by
 have h':IntKind.u8.min≤m∧m≤IntKind.u8.max:=by simpa[Lit.wf,IntKind.has]using h
 have e1:IntKind.u8.min=0:=rfl
 have e2:IntKind.u8.max=255:=rfl
 omega
theorem law5(xs:List AV)(h:TyAll Tryz.prog 5 [23,5] xs)(hz:SzAll Tryz.prog [23,5] xs):∃H',lim cfg (.fn 5) xs Heap.nil=some (.ret (.bool true),H'):=by
 obtain⟨x1,x2,rfl,h1,h2⟩:=tyall_2 h
 obtain⟨a,rfl,ra⟩:=ty23 (k:=2) h1
 obtain⟨n,rfl,wn⟩:=tyv_int (k:=4) Tryz.underlying5 h2
 have rn:=u8_range wn
 exact(resParts a n ra rn.1 rn.2).ret
end Go.Aa.T
namespace Go.Proofs
open Go.Shelf
def Tryz.lays160_ren:Go.Shelf.Ren:=⟨fun|160=>83|232=>110|231=>109|227=>111|234=>113|233=>112|236=>115|235=>114|228=>134|271=>136|151=>135|197=>129|120=>160|152=>159|260=>149|137=>181|119=>182|224=>152|225=>151|217=>150|266=>175|n=>n,fun|9=>9|4=>4|3=>3|5=>5|117=>152|116=>151|0=>0|124=>155|21=>21|105=>167|46=>165|119=>203|139=>206|138=>205|n=>n,fun|3=>4|4=>5|n=>n⟩
theorem Tryz.lays160:Go.Proofs.Lays.n160 Tryz.prog Tryz.lays160_ren:={
 mixed:=by kernel_rfl
 f119:=Tryz.func182.trans (congrArg some (by kernel_rfl))
 f120:=Tryz.func160.trans (congrArg some (by kernel_rfl))
 f137:=Tryz.func181.trans (congrArg some (by kernel_rfl))
 f151:=Tryz.func135.trans (congrArg some (by kernel_rfl))
 f152:=Tryz.func159.trans (congrArg some (by kernel_rfl))
 f160:=Tryz.func83.trans (congrArg some (by kernel_rfl))
 f197:=Tryz.func129.trans (congrArg some (by kernel_rfl))
 f217:=Tryz.func150.trans (congrArg some (by kernel_rfl))
 f224:=Tryz.func152.trans (congrArg some (by kernel_rfl))
 f225:=Tryz.func151.trans (congrArg some (by kernel_rfl))
 f227:=Tryz.func111.trans (congrArg some (by kernel_rfl))
 f228:=Tryz.func134.trans (congrArg some (by kernel_rfl))
 f231:=Tryz.func109.trans (congrArg some (by kernel_rfl))
 f232:=Tryz.func110.trans (congrArg some (by kernel_rfl))
 f233:=Tryz.func112.trans (congrArg some (by kernel_rfl))
 f234:=Tryz.func113.trans (congrArg some (by kernel_rfl))
 f235:=Tryz.func114.trans (congrArg some (by kernel_rfl))
 f236:=Tryz.func115.trans (congrArg some (by kernel_rfl))
 f260:=Tryz.func149.trans (congrArg some (by kernel_rfl))
 f266:=Tryz.func175.trans (congrArg some (by kernel_rfl))
 f271:=Tryz.func136.trans (congrArg some (by kernel_rfl))
 t0:=Tryz.underlying0
 a0:=Tryz.isAgg0
 z0:=Tryz.sizeOf0
 v0:=Tryz.zeroValue0
 t3:=Tryz.underlying3
 a3:=Tryz.isAgg3
 z3:=Tryz.sizeOf3
 v3:=Tryz.zeroValue3
 t4:=Tryz.underlying4
 a4:=Tryz.isAgg4
 z4:=Tryz.sizeOf4
 v4:=Tryz.zeroValue4
 t5:=Tryz.underlying5
 a5:=Tryz.isAgg5
 z5:=Tryz.sizeOf5
 v5:=Tryz.zeroValue5
 t9:=Tryz.underlying9
 a9:=Tryz.isAgg9
 z9:=Tryz.sizeOf9
 v9:=Tryz.zeroValue9
 t21:=Tryz.underlying21
 a21:=Tryz.isAgg21
 z21:=Tryz.sizeOf21
 v21:=Tryz.zeroValue21
 t46:=Tryz.underlying165
 a46:=Tryz.isAgg165
 z46:=Tryz.sizeOf165
 v46:=Tryz.zeroValue165
 t105:=Tryz.underlying167
 a105:=Tryz.isAgg167
 z105:=Tryz.sizeOf167
 v105:=Tryz.zeroValue167
 t116:=Tryz.underlying151
 a116:=Tryz.isAgg151
 z116:=Tryz.sizeOf151
 t117:=Tryz.underlying152
 a117:=Tryz.isAgg152
 z117:=Tryz.sizeOf152
 v117:=Tryz.zeroValue152
 t119:=Tryz.underlying203
 a119:=Tryz.isAgg203
 z119:=Tryz.sizeOf203
 t124:=Tryz.underlying155
 a124:=Tryz.isAgg155
 z124:=Tryz.sizeOf155
 v124:=Tryz.zeroValue155
 t138:=Tryz.underlying205
 a138:=Tryz.isAgg205
 z138:=Tryz.sizeOf205
 v138:=Tryz.zeroValue205
 t139:=Tryz.underlying206
 a139:=Tryz.isAgg206
 z139:=Tryz.sizeOf206
 v139:=Tryz.zeroValue206
 g3:=by kernel_rfl
 g4:=by kernel_rfl}
def Tryz.lays156_ren:Go.Shelf.Ren:=⟨fun|156=>54|165=>95|166=>96|169=>97|240=>122|241=>123|276=>144|277=>145|n=>n,fun|31=>88|9=>9|3=>3|4=>4|0=>0|20=>20|72=>127|76=>131|70=>125|37=>83|75=>130|127=>162|164=>180|5=>5|80=>133|n=>n,fun|n=>n⟩
theorem Tryz.lays156:Go.Proofs.Lays.n156 Tryz.prog Tryz.lays156_ren:={
 mixed:=by kernel_rfl
 f156:=Tryz.func54.trans (congrArg some (by kernel_rfl))
 f165:=Tryz.func95.trans (congrArg some (by kernel_rfl))
 f166:=Tryz.func96.trans (congrArg some (by kernel_rfl))
 f169:=Tryz.func97.trans (congrArg some (by kernel_rfl))
 f240:=Tryz.func122.trans (congrArg some (by kernel_rfl))
 f241:=Tryz.func123.trans (congrArg some (by kernel_rfl))
 f276:=Tryz.func144.trans (congrArg some (by kernel_rfl))
 f277:=Tryz.func145.trans (congrArg some (by kernel_rfl))
 t0:=Tryz.underlying0
 a0:=Tryz.isAgg0
 z0:=Tryz.sizeOf0
 v0:=Tryz.zeroValue0
 t3:=Tryz.underlying3
 a3:=Tryz.isAgg3
 z3:=Tryz.sizeOf3
 v3:=Tryz.zeroValue3
 t4:=Tryz.underlying4
 a4:=Tryz.isAgg4
 z4:=Tryz.sizeOf4
 v4:=Tryz.zeroValue4
 t9:=Tryz.underlying9
 a9:=Tryz.isAgg9
 z9:=Tryz.sizeOf9
 v9:=Tryz.zeroValue9
 t20:=Tryz.underlying20
 a20:=Tryz.isAgg20
 z20:=Tryz.sizeOf20
 v20:=Tryz.zeroValue20
 t31:=Tryz.underlying88
 a31:=Tryz.isAgg88
 z31:=Tryz.sizeOf88
 v31:=Tryz.zeroValue88
 t37:=Tryz.underlying83
 a37:=Tryz.isAgg83
 z37:=Tryz.sizeOf83
 v37:=Tryz.zeroValue83
 t70:=Tryz.underlying125
 a70:=Tryz.isAgg125
 z70:=Tryz.sizeOf125
 v70:=Tryz.zeroValue125
 t72:=Tryz.underlying127
 a72:=Tryz.isAgg127
 z72:=Tryz.sizeOf127
 v72:=Tryz.zeroValue127
 t75:=Tryz.underlying130
 a75:=Tryz.isAgg130
 z75:=Tryz.sizeOf130
 v75:=Tryz.zeroValue130
 t76:=Tryz.underlying131
 a76:=Tryz.isAgg131
 z76:=Tryz.sizeOf131
 v76:=Tryz.zeroValue131
 t127:=Tryz.underlying162
 a127:=Tryz.isAgg162
 z127:=Tryz.sizeOf162
 v127:=Tryz.zeroValue162
 t164:=Tryz.underlying180
 a164:=Tryz.isAgg180
 z164:=Tryz.sizeOf180
 v164:=Tryz.zeroValue180}
theorem Tryz.Builder_Extra_156:Builder.Extra Tryz.prog Tryz.lays156_ren:={
 sizeBuilder:=by kernel_rfl
 liesBuilder:=by kernel_rfl
 t5:=Tryz.underlying5
 a5:=Tryz.isAgg5
 z5:=Tryz.sizeOf5
 v5:=Tryz.zeroValue5
 infoByte:=by kernel_rfl
 cellsByte:=by kernel_rfl
 sizeByte:=by kernel_rfl
 neB5:=by decide}
def Tryz.lays143_ren:Go.Shelf.Ren:=⟨fun|143=>130|219=>131|217=>150|225=>151|224=>152|267=>153|266=>175|314=>176|n=>n,fun|9=>9|3=>3|4=>4|5=>5|46=>165|146=>207|51=>79|n=>n,fun|1=>3|n=>n⟩
theorem Tryz.lays143:Go.Proofs.Lays.n143 Tryz.prog Tryz.lays143_ren:={
 mixed:=by kernel_rfl
 f143:=Tryz.func130.trans (congrArg some (by kernel_rfl))
 f217:=Tryz.func150.trans (congrArg some (by kernel_rfl))
 f219:=Tryz.func131.trans (congrArg some (by kernel_rfl))
 f224:=Tryz.func152.trans (congrArg some (by kernel_rfl))
 f225:=Tryz.func151.trans (congrArg some (by kernel_rfl))
 f266:=Tryz.func175.trans (congrArg some (by kernel_rfl))
 f267:=Tryz.func153.trans (congrArg some (by kernel_rfl))
 f314:=Tryz.func176.trans (congrArg some (by kernel_rfl))
 t3:=Tryz.underlying3
 a3:=Tryz.isAgg3
 z3:=Tryz.sizeOf3
 v3:=Tryz.zeroValue3
 t4:=Tryz.underlying4
 a4:=Tryz.isAgg4
 z4:=Tryz.sizeOf4
 v4:=Tryz.zeroValue4
 t5:=Tryz.underlying5
 a5:=Tryz.isAgg5
 z5:=Tryz.sizeOf5
 v5:=Tryz.zeroValue5
 t9:=Tryz.underlying9
 a9:=Tryz.isAgg9
 z9:=Tryz.sizeOf9
 v9:=Tryz.zeroValue9
 t46:=Tryz.underlying165
 a46:=Tryz.isAgg165
 z46:=Tryz.sizeOf165
 v46:=Tryz.zeroValue165
 t51:=Tryz.underlying79
 a51:=Tryz.isAgg79
 z51:=Tryz.sizeOf79
 v51:=Tryz.zeroValue79
 t146:=Tryz.underlying207
 a146:=Tryz.isAgg207
 z146:=Tryz.sizeOf207
 v146:=Tryz.zeroValue207
 g1:=by kernel_rfl}
def Tryz.lays219_ren:Go.Shelf.Ren:=⟨fun|219=>131|217=>150|225=>151|224=>152|267=>153|266=>175|314=>176|n=>n,fun|9=>9|3=>3|4=>4|5=>5|46=>165|146=>207|51=>79|n=>n,fun|1=>3|n=>n⟩
theorem Tryz.lays219:Go.Proofs.Lays.n219 Tryz.prog Tryz.lays219_ren:={
 mixed:=by kernel_rfl
 f217:=Tryz.func150.trans (congrArg some (by kernel_rfl))
 f219:=Tryz.func131.trans (congrArg some (by kernel_rfl))
 f224:=Tryz.func152.trans (congrArg some (by kernel_rfl))
 f225:=Tryz.func151.trans (congrArg some (by kernel_rfl))
 f266:=Tryz.func175.trans (congrArg some (by kernel_rfl))
 f267:=Tryz.func153.trans (congrArg some (by kernel_rfl))
 f314:=Tryz.func176.trans (congrArg some (by kernel_rfl))
 t3:=Tryz.underlying3
 a3:=Tryz.isAgg3
 z3:=Tryz.sizeOf3
 v3:=Tryz.zeroValue3
 t4:=Tryz.underlying4
 a4:=Tryz.isAgg4
 z4:=Tryz.sizeOf4
 v4:=Tryz.zeroValue4
 t5:=Tryz.underlying5
 a5:=Tryz.isAgg5
 z5:=Tryz.sizeOf5
 v5:=Tryz.zeroValue5
 t9:=Tryz.underlying9
 a9:=Tryz.isAgg9
 z9:=Tryz.sizeOf9
 v9:=Tryz.zeroValue9
 t46:=Tryz.underlying165
 a46:=Tryz.isAgg165
 z46:=Tryz.sizeOf165
 v46:=Tryz.zeroValue165
 t51:=Tryz.underlying79
 a51:=Tryz.isAgg79
 z51:=Tryz.sizeOf79
 v51:=Tryz.zeroValue79
 t146:=Tryz.underlying207
 a146:=Tryz.isAgg207
 z146:=Tryz.sizeOf207
 v146:=Tryz.zeroValue207
 g1:=by kernel_rfl}
def Tryz.laysM173_ren:Go.Shelf.Ren:=⟨fun|173=>53|246=>94|283=>118|284=>119|285=>120|286=>121|129=>140|317=>139|318=>141|319=>142|320=>143|337=>163|338=>164|n=>n,fun|2=>2|3=>3|9=>9|4=>4|171=>157|0=>0|53=>138|37=>83|5=>5|173=>160|212=>176|51=>79|20=>20|213=>177|46=>165|232=>215|233=>216|n=>n,fun|17=>0|18=>8|19=>9|n=>n⟩
theorem Tryz.laysM173:Go.Proofs.LaysM.n173 Tryz.prog Tryz.laysM173_ren:={
 mixed:=by kernel_rfl
 f129:=Tryz.func140.trans (congrArg some (by kernel_rfl))
 f173:=Tryz.func53.trans (congrArg some (by kernel_rfl))
 f246:=Tryz.func94.trans (congrArg some (by kernel_rfl))
 f283:=Tryz.func118.trans (congrArg some (by kernel_rfl))
 f284:=Tryz.func119.trans (congrArg some (by kernel_rfl))
 f285:=Tryz.func120.trans (congrArg some (by kernel_rfl))
 f286:=Tryz.func121.trans (congrArg some (by kernel_rfl))
 f317:=Tryz.func139.trans (congrArg some (by kernel_rfl))
 f318:=Tryz.func141.trans (congrArg some (by kernel_rfl))
 f319:=Tryz.func142.trans (congrArg some (by kernel_rfl))
 f320:=Tryz.func143.trans (congrArg some (by kernel_rfl))
 f337:=Tryz.func163.trans (congrArg some (by kernel_rfl))
 f338:=Tryz.func164.trans (congrArg some (by kernel_rfl))
 t0:=Tryz.underlying0
 a0:=Tryz.isAgg0
 z0:=Tryz.sizeOf0
 v0:=Tryz.zeroValue0
 t2:=Tryz.underlying2
 a2:=Tryz.isAgg2
 z2:=Tryz.sizeOf2
 v2:=Tryz.zeroValue2
 t3:=Tryz.underlying3
 a3:=Tryz.isAgg3
 z3:=Tryz.sizeOf3
 v3:=Tryz.zeroValue3
 t4:=Tryz.underlying4
 a4:=Tryz.isAgg4
 z4:=Tryz.sizeOf4
 v4:=Tryz.zeroValue4
 t5:=Tryz.underlying5
 a5:=Tryz.isAgg5
 z5:=Tryz.sizeOf5
 v5:=Tryz.zeroValue5
 t9:=Tryz.underlying9
 a9:=Tryz.isAgg9
 z9:=Tryz.sizeOf9
 v9:=Tryz.zeroValue9
 t20:=Tryz.underlying20
 a20:=Tryz.isAgg20
 z20:=Tryz.sizeOf20
 v20:=Tryz.zeroValue20
 t37:=Tryz.underlying83
 a37:=Tryz.isAgg83
 z37:=Tryz.sizeOf83
 v37:=Tryz.zeroValue83
 t46:=Tryz.underlying165
 a46:=Tryz.isAgg165
 z46:=Tryz.sizeOf165
 v46:=Tryz.zeroValue165
 t51:=Tryz.underlying79
 a51:=Tryz.isAgg79
 z51:=Tryz.sizeOf79
 v51:=Tryz.zeroValue79
 t53:=Tryz.underlying138
 a53:=Tryz.isAgg138
 z53:=Tryz.sizeOf138
 v53:=Tryz.zeroValue138
 t171:=Tryz.underlying157
 a171:=Tryz.isAgg157
 z171:=Tryz.sizeOf157
 v171:=Tryz.zeroValue157
 t173:=Tryz.underlying160
 a173:=Tryz.isAgg160
 z173:=Tryz.sizeOf160
 v173:=Tryz.zeroValue160
 t212:=Tryz.underlying176
 a212:=Tryz.isAgg176
 z212:=Tryz.sizeOf176
 v212:=Tryz.zeroValue176
 t213:=Tryz.underlying177
 a213:=Tryz.isAgg177
 z213:=Tryz.sizeOf177
 t232:=Tryz.underlying215
 a232:=Tryz.isAgg215
 z232:=Tryz.sizeOf215
 v232:=Tryz.zeroValue215
 t233:=Tryz.underlying216
 a233:=Tryz.isAgg216
 z233:=Tryz.sizeOf216
 v233:=Tryz.zeroValue216
 g17:=by kernel_rfl
 g18:=by kernel_rfl
 g19:=by kernel_rfl
 i0:=by kernel_rfl
 i2:=by kernel_rfl
 i3:=by kernel_rfl
 i4:=by kernel_rfl
 i5:=by kernel_rfl
 i9:=by kernel_rfl
 i20:=by kernel_rfl
 i37:=by kernel_rfl
 i46:=by kernel_rfl
 i51:=by kernel_rfl
 i53:=by kernel_rfl
 i171:=by kernel_rfl
 i173:=by kernel_rfl
 i212:=by kernel_rfl
 i232:=by kernel_rfl
 i233:=by kernel_rfl
 m17:=by kernel_rfl
 m18:=by kernel_rfl
 m19:=by kernel_rfl}
def Tryz.laysC174_ren:Go.Shelf.Ren:=⟨fun|174=>108|247=>132|245=>133|287=>154|279=>155|280=>156|281=>157|282=>158|321=>177|322=>178|316=>179|171=>89|205=>180|243=>116|246=>94|283=>118|284=>119|285=>120|286=>121|129=>140|317=>139|318=>141|319=>142|320=>143|337=>163|338=>164|n=>n,fun|9=>9|3=>3|2=>2|75=>130|85=>147|4=>4|167=>185|5=>5|53=>138|175=>186|46=>165|168=>188|37=>83|0=>0|210=>212|21=>21|127=>162|145=>225|143=>223|171=>157|173=>160|212=>176|51=>79|20=>20|213=>177|232=>215|233=>216|80=>133|n=>n,fun|15=>6|16=>7|17=>0|18=>8|19=>9|n=>n⟩
theorem Tryz.laysC174:Go.Proofs.LaysC.n174 Tryz.prog Tryz.laysC174_ren:={
 mixed:=by kernel_rfl
 f129:=Tryz.func140.trans (congrArg some (by kernel_rfl))
 f171:=Tryz.func89.trans (congrArg some (by kernel_rfl))
 f174:=Tryz.func108.trans (congrArg some (by kernel_rfl))
 f205:=Tryz.func180.trans (congrArg some (by kernel_rfl))
 f243:=Tryz.func116.trans (congrArg some (by kernel_rfl))
 f245:=Tryz.func133.trans (congrArg some (by kernel_rfl))
 f246:=Tryz.func94.trans (congrArg some (by kernel_rfl))
 f247:=Tryz.func132.trans (congrArg some (by kernel_rfl))
 f279:=Tryz.func155.trans (congrArg some (by kernel_rfl))
 f280:=Tryz.func156.trans (congrArg some (by kernel_rfl))
 f281:=Tryz.func157.trans (congrArg some (by kernel_rfl))
 f282:=Tryz.func158.trans (congrArg some (by kernel_rfl))
 f283:=Tryz.func118.trans (congrArg some (by kernel_rfl))
 f284:=Tryz.func119.trans (congrArg some (by kernel_rfl))
 f285:=Tryz.func120.trans (congrArg some (by kernel_rfl))
 f286:=Tryz.func121.trans (congrArg some (by kernel_rfl))
 f287:=Tryz.func154.trans (congrArg some (by kernel_rfl))
 f316:=Tryz.func179.trans (congrArg some (by kernel_rfl))
 f317:=Tryz.func139.trans (congrArg some (by kernel_rfl))
 f318:=Tryz.func141.trans (congrArg some (by kernel_rfl))
 f319:=Tryz.func142.trans (congrArg some (by kernel_rfl))
 f320:=Tryz.func143.trans (congrArg some (by kernel_rfl))
 f321:=Tryz.func177.trans (congrArg some (by kernel_rfl))
 f322:=Tryz.func178.trans (congrArg some (by kernel_rfl))
 f337:=Tryz.func163.trans (congrArg some (by kernel_rfl))
 f338:=Tryz.func164.trans (congrArg some (by kernel_rfl))
 t0:=Tryz.underlying0
 a0:=Tryz.isAgg0
 z0:=Tryz.sizeOf0
 v0:=Tryz.zeroValue0
 t2:=Tryz.underlying2
 a2:=Tryz.isAgg2
 z2:=Tryz.sizeOf2
 v2:=Tryz.zeroValue2
 t3:=Tryz.underlying3
 a3:=Tryz.isAgg3
 z3:=Tryz.sizeOf3
 v3:=Tryz.zeroValue3
 t4:=Tryz.underlying4
 a4:=Tryz.isAgg4
 z4:=Tryz.sizeOf4
 v4:=Tryz.zeroValue4
 t5:=Tryz.underlying5
 a5:=Tryz.isAgg5
 z5:=Tryz.sizeOf5
 v5:=Tryz.zeroValue5
 t9:=Tryz.underlying9
 a9:=Tryz.isAgg9
 z9:=Tryz.sizeOf9
 v9:=Tryz.zeroValue9
 t20:=Tryz.underlying20
 a20:=Tryz.isAgg20
 z20:=Tryz.sizeOf20
 v20:=Tryz.zeroValue20
 t21:=Tryz.underlying21
 a21:=Tryz.isAgg21
 z21:=Tryz.sizeOf21
 v21:=Tryz.zeroValue21
 t37:=Tryz.underlying83
 a37:=Tryz.isAgg83
 z37:=Tryz.sizeOf83
 v37:=Tryz.zeroValue83
 t46:=Tryz.underlying165
 a46:=Tryz.isAgg165
 z46:=Tryz.sizeOf165
 v46:=Tryz.zeroValue165
 t51:=Tryz.underlying79
 a51:=Tryz.isAgg79
 z51:=Tryz.sizeOf79
 v51:=Tryz.zeroValue79
 t53:=Tryz.underlying138
 a53:=Tryz.isAgg138
 z53:=Tryz.sizeOf138
 v53:=Tryz.zeroValue138
 t75:=Tryz.underlying130
 a75:=Tryz.isAgg130
 z75:=Tryz.sizeOf130
 v75:=Tryz.zeroValue130
 t85:=Tryz.underlying147
 a85:=Tryz.isAgg147
 z85:=Tryz.sizeOf147
 v85:=Tryz.zeroValue147
 t127:=Tryz.underlying162
 a127:=Tryz.isAgg162
 z127:=Tryz.sizeOf162
 v127:=Tryz.zeroValue162
 t143:=Tryz.underlying223
 a143:=Tryz.isAgg223
 z143:=Tryz.sizeOf223
 v143:=Tryz.zeroValue223
 t145:=Tryz.underlying225
 a145:=Tryz.isAgg225
 z145:=Tryz.sizeOf225
 v145:=Tryz.zeroValue225
 t167:=Tryz.underlying185
 a167:=Tryz.isAgg185
 z167:=Tryz.sizeOf185
 v167:=Tryz.zeroValue185
 t168:=Tryz.underlying188
 a168:=Tryz.isAgg188
 z168:=Tryz.sizeOf188
 v168:=Tryz.zeroValue188
 t171:=Tryz.underlying157
 a171:=Tryz.isAgg157
 z171:=Tryz.sizeOf157
 v171:=Tryz.zeroValue157
 t173:=Tryz.underlying160
 a173:=Tryz.isAgg160
 z173:=Tryz.sizeOf160
 v173:=Tryz.zeroValue160
 t175:=Tryz.underlying186
 a175:=Tryz.isAgg186
 z175:=Tryz.sizeOf186
 v175:=Tryz.zeroValue186
 t210:=Tryz.underlying212
 a210:=Tryz.isAgg212
 z210:=Tryz.sizeOf212
 v210:=Tryz.zeroValue212
 t212:=Tryz.underlying176
 a212:=Tryz.isAgg176
 z212:=Tryz.sizeOf176
 v212:=Tryz.zeroValue176
 t213:=Tryz.underlying177
 a213:=Tryz.isAgg177
 z213:=Tryz.sizeOf177
 t232:=Tryz.underlying215
 a232:=Tryz.isAgg215
 z232:=Tryz.sizeOf215
 v232:=Tryz.zeroValue215
 t233:=Tryz.underlying216
 a233:=Tryz.isAgg216
 z233:=Tryz.sizeOf216
 v233:=Tryz.zeroValue216
 g15:=by kernel_rfl
 g16:=by kernel_rfl
 g17:=by kernel_rfl
 g18:=by kernel_rfl
 g19:=by kernel_rfl
 t80:=Tryz.underlying133
 a80:=Tryz.isAgg133
 z80:=Tryz.sizeOf133
 v80:=Tryz.zeroValue133
 i0:=by kernel_rfl
 i2:=by kernel_rfl
 i3:=by kernel_rfl
 i4:=by kernel_rfl
 i5:=by kernel_rfl
 i9:=by kernel_rfl
 i20:=by kernel_rfl
 i21:=by kernel_rfl
 i37:=by kernel_rfl
 i46:=by kernel_rfl
 i51:=by kernel_rfl
 i53:=by kernel_rfl
 i75:=by kernel_rfl
 i80:=by kernel_rfl
 i85:=by kernel_rfl
 i127:=by kernel_rfl
 i143:=by kernel_rfl
 i145:=by kernel_rfl
 i167:=by kernel_rfl
 i168:=by kernel_rfl
 i171:=by kernel_rfl
 i173:=by kernel_rfl
 i175:=by kernel_rfl
 i210:=by kernel_rfl
 i212:=by kernel_rfl
 i232:=by kernel_rfl
 i233:=by kernel_rfl
 m15:=by kernel_rfl
 m16:=by kernel_rfl
 m17:=by kernel_rfl
 m18:=by kernel_rfl
 m19:=by kernel_rfl
 c0:=by kernel_rfl
 c2:=by kernel_rfl
 c3:=by kernel_rfl
 c4:=by kernel_rfl
 c5:=by kernel_rfl
 c9:=by kernel_rfl
 c20:=by kernel_rfl
 c21:=by kernel_rfl
 c37:=by kernel_rfl
 c46:=by kernel_rfl
 c51:=by kernel_rfl
 c53:=by kernel_rfl
 c75:=by kernel_rfl
 c80:=by kernel_rfl
 c85:=by kernel_rfl
 c127:=by kernel_rfl
 c143:=by kernel_rfl
 c145:=by kernel_rfl
 c167:=by kernel_rfl
 c168:=by kernel_rfl
 c171:=by kernel_rfl
 c173:=by kernel_rfl
 c175:=by kernel_rfl
 c210:=by kernel_rfl
 c212:=by kernel_rfl
 c213:=by kernel_rfl
 c232:=by kernel_rfl
 c233:=by kernel_rfl}
def Tryz.lays190_ren:Go.Shelf.Ren:=⟨fun|190=>124|125=>147|258=>146|128=>174|129=>140|302=>165|303=>166|304=>167|305=>168|306=>169|307=>170|308=>171|309=>172|310=>173|333=>183|329=>184|330=>185|334=>186|335=>187|336=>188|344=>189|n=>n,fun|31=>88|9=>9|3=>3|46=>165|0=>0|51=>79|53=>138|4=>4|183=>196|182=>195|131=>201|5=>5|218=>217|222=>221|228=>226|229=>227|n=>n,fun|n=>n⟩
theorem Tryz.lays190:Go.Proofs.Lays.n190 Tryz.prog Tryz.lays190_ren:={
 mixed:=by kernel_rfl
 f125:=Tryz.func147.trans (congrArg some (by kernel_rfl))
 f128:=Tryz.func174.trans (congrArg some (by kernel_rfl))
 f129:=Tryz.func140.trans (congrArg some (by kernel_rfl))
 f190:=Tryz.func124.trans (congrArg some (by kernel_rfl))
 f258:=Tryz.func146.trans (congrArg some (by kernel_rfl))
 f302:=Tryz.func165.trans (congrArg some (by kernel_rfl))
 f303:=Tryz.func166.trans (congrArg some (by kernel_rfl))
 f304:=Tryz.func167.trans (congrArg some (by kernel_rfl))
 f305:=Tryz.func168.trans (congrArg some (by kernel_rfl))
 f306:=Tryz.func169.trans (congrArg some (by kernel_rfl))
 f307:=Tryz.func170.trans (congrArg some (by kernel_rfl))
 f308:=Tryz.func171.trans (congrArg some (by kernel_rfl))
 f309:=Tryz.func172.trans (congrArg some (by kernel_rfl))
 f310:=Tryz.func173.trans (congrArg some (by kernel_rfl))
 f329:=Tryz.func184.trans (congrArg some (by kernel_rfl))
 f330:=Tryz.func185.trans (congrArg some (by kernel_rfl))
 f333:=Tryz.func183.trans (congrArg some (by kernel_rfl))
 f334:=Tryz.func186.trans (congrArg some (by kernel_rfl))
 f335:=Tryz.func187.trans (congrArg some (by kernel_rfl))
 f336:=Tryz.func188.trans (congrArg some (by kernel_rfl))
 f344:=Tryz.func189.trans (congrArg some (by kernel_rfl))
 t0:=Tryz.underlying0
 a0:=Tryz.isAgg0
 z0:=Tryz.sizeOf0
 v0:=Tryz.zeroValue0
 t3:=Tryz.underlying3
 a3:=Tryz.isAgg3
 z3:=Tryz.sizeOf3
 v3:=Tryz.zeroValue3
 t4:=Tryz.underlying4
 a4:=Tryz.isAgg4
 z4:=Tryz.sizeOf4
 v4:=Tryz.zeroValue4
 t5:=Tryz.underlying5
 a5:=Tryz.isAgg5
 z5:=Tryz.sizeOf5
 v5:=Tryz.zeroValue5
 t9:=Tryz.underlying9
 a9:=Tryz.isAgg9
 z9:=Tryz.sizeOf9
 v9:=Tryz.zeroValue9
 t31:=Tryz.underlying88
 a31:=Tryz.isAgg88
 z31:=Tryz.sizeOf88
 v31:=Tryz.zeroValue88
 t46:=Tryz.underlying165
 a46:=Tryz.isAgg165
 z46:=Tryz.sizeOf165
 v46:=Tryz.zeroValue165
 t51:=Tryz.underlying79
 a51:=Tryz.isAgg79
 z51:=Tryz.sizeOf79
 v51:=Tryz.zeroValue79
 t53:=Tryz.underlying138
 a53:=Tryz.isAgg138
 z53:=Tryz.sizeOf138
 v53:=Tryz.zeroValue138
 t131:=Tryz.underlying201
 a131:=Tryz.isAgg201
 z131:=Tryz.sizeOf201
 v131:=Tryz.zeroValue201
 t182:=Tryz.underlying195
 a182:=Tryz.isAgg195
 z182:=Tryz.sizeOf195
 v182:=Tryz.zeroValue195
 t183:=Tryz.underlying196
 a183:=Tryz.isAgg196
 z183:=Tryz.sizeOf196
 v183:=Tryz.zeroValue196
 t218:=Tryz.underlying217
 a218:=Tryz.isAgg217
 z218:=Tryz.sizeOf217
 v218:=Tryz.zeroValue217
 t222:=Tryz.underlying221
 a222:=Tryz.isAgg221
 z222:=Tryz.sizeOf221
 v222:=Tryz.zeroValue221
 t228:=Tryz.underlying226
 a228:=Tryz.isAgg226
 z228:=Tryz.sizeOf226
 v228:=Tryz.zeroValue226
 t229:=Tryz.underlying227
 a229:=Tryz.isAgg227
 z229:=Tryz.sizeOf227
 v229:=Tryz.zeroValue227}
def Tryz.lays725_ren:Go.Shelf.Ren:=⟨fun|25=>126|n=>n,fun|22=>138|n=>n,fun|n=>n⟩
theorem Tryz.lays725:Go.Proofs.Lays7.n25 Tryz.prog Tryz.lays725_ren:={
 mixed:=by kernel_rfl
 f25:=Tryz.func126.trans (congrArg some (by kernel_rfl))
 t22:=Tryz.underlying138
 a22:=Tryz.isAgg138
 z22:=Tryz.sizeOf138
 v22:=Tryz.zeroValue138
 i22:=by kernel_rfl}
end Go.Proofs
set_option linter.unusedVariables false
set_option linter.unusedSimpArgs false
set_option maxRecDepth 100000
namespace Go.Aa.T
open Go.Aa Go.Proofs Go.RowKit Go.Shelf
theorem cfgOk:CfgOk Tryz.prog cfg:=by
 refine⟨by kernel_rfl,fun f A h=>tab_fn h,fun f g h=> ?_,fun f h=> ?_⟩
 ·have h:extF f=some g:=h
  unfold extF at h
  split at h<;>simp only[Option.some.injEq,reduceCtorEq]at h<;>subst h
  ·exact ext_trim (fun _ _=>by kernel_rfl) fun s c w h1 h2 h3=>Any.strings_Trim_laid Tryz.lays160 (by kernel_rfl) s c w h1 h2 h3
  ·exact ext_join (fun _ _=>by kernel_rfl) (fun a c sep w=>Any.strings_Join_none Tryz.lays156 Tryz.Builder_Extra_156 a c sep w) fun bk o c xs sep w h1 h2 h3 h4 h5=>Any.strings_Join Tryz.lays156 Tryz.Builder_Extra_156 bk o c xs sep w h1 h2 h3 h4 h5
  ·exact ext_index (fun _ _=>by kernel_rfl) fun s c w=>Any.strings_Index_one Tryz.lays143 s c w
  ·exact ext_index (fun _ _=>by kernel_rfl) fun s c w=>Any.stringslite_Index_one Tryz.lays219 s c w
  ·exact ext_fmt (fun _ _=>by kernel_rfl) (g:=0) (by kernel_rfl) fun n w h0 h1 ht=>(Any.strconv_FormatInt_10 Tryz.laysM173 n h0 h1 w ht).mono fun e w' hh=>⟨hh.1,by obtain⟨_,k,os,rfl⟩:=hh;exact Lib.below_grow _ _ (Nat.le_refl _) _ _⟩
  ·exact ext_parse (fun _ _=>by kernel_rfl) (g1:=6) (g2:=7) (by kernel_rfl) (by kernel_rfl)
    (fun s v w hz he=>(Any.strconv_ParseInt_10_at64_ok Tryz.laysC174 s (by omega) v he w).mono fun e w' hh=>⟨hh.1,by
      obtain⟨_,rfl|⟨t,rfl⟩⟩:=hh
      ·exact Below.refl _ _
      ·exact Lib.bytesWorld_below _ _ _⟩)
    (fun s w tp p hz he hv=>(Any.strconv_ParseInt_10_at64_syntax_var Tryz.laysC174 s hz he tp p w hv).mono fun e w' hh=>by
      obtain⟨N,h1,_,_,h2⟩:=hh
      exact⟨_,h1,h2⟩)
    (fun s w tp p hz he hv=>(Any.strconv_ParseInt_10_at64_range_var Tryz.laysC174 s hz he tp p w hv).mono fun e w' hh=>by
      obtain⟨N,h1,_,_,h2⟩:=hh
      exact⟨_,h1,h2⟩)
  ·exact ext_sort (fun _ _=>by kernel_rfl) (fun a c w=>Any.slices_Sort_string_none Tryz.lays190 a c w) fun blk off cap ss w h1 h2 h3=>Any.slices_Sort_string Tryz.lays190 blk off cap ss w h1 h2 h3
  ·exact ext_add64 fun x y c hc w=>Any7.bits_Add64 Tryz.lays725 x y c hc w
 ·have h:(f==74)=true:=h
  have:f=74:=by simpa using h
  subst this
  exact Go.Proofs.YtbcfceehklfojaaGreatDoor.T.tryOk
#print axioms cfgOk
end Go.Aa.T
set_option linter.unusedVariables false
set_option linter.unusedSimpArgs false
set_option maxRecDepth 100000
namespace Go.Aa.T
open Go.Aa Go.Proofs Go.RowKit Go.ChangeShapes Go.Proofs.YtbcfceehklfojaaGreatDoor
theorem star: "*" ++ "errors.errorString" = "*errors.errorString" :=by decide
theorem rowES(u:TypeId)(h:Tryz.prog.typeName? 3 u=some "*errors.errorString"):u=223:=
 typeName_ptr_named (nm:= "errors.errorString") (by rw[star];kernel_rfl) (by kernel_rfl) (by decide) u (by rw[star];exact h)
theorem var_heap{P:Program}{W:World}{n:String}{cs:Array Value}{g:Nat}(h:W.var? P n=some cs)(hg:P.globalNamed n=some g):∃e m,W.heap[g]?=some (.cells cs e m):=by
 simp only[World.var?,hg,Option.bind_some]at h
 split at h
 ·rename_i cs' e m hc
  cases h
  exact⟨e,m,hc⟩
 ·cases h
def laidL:List (String×DataW Unit):=Rows.resPartsRow.laid
theorem pow_eq:(Rows.laid_internal_strconv_uint64pow10:DataW Unit)=Lib.tabData .u64 Lib.pow10Tab:=by kernel_rfl
theorem cellsES:Tryz.prog.cellsOf 225=1:=by kernel_rfl
theorem cellsS:Tryz.prog.cellsOf 9=1:=by kernel_rfl
theorem glob0W{W:World}(h:laidMet Tryz.prog laidL W):Glob0 Tryz.prog W:=by
 have h2:=laidMet.tail (laidMet.tail h)
 have ht:Lib.TabIs Tryz.prog W "internal/strconv.uint64pow10" .u64 Lib.pow10Tab:=by
  have h3:laidMet Tryz.prog (("internal/strconv.uint64pow10",Rows.laid_internal_strconv_uint64pow10)::_) W:=h2
  rw[pow_eq]at h3
  exact Lib.tabIs_of_head (g:=0) (t:=176) (n:=20) (by kernel_rfl) (by kernel_rfl) Tryz.underlying176 Tryz.underlying138 (by kernel_rfl) (by kernel_rfl) h3
 have h4:=laidMet.tail (laidMet.tail h2)
 obtain⟨a1,s1,hv1,-,-,-⟩:=laid_sentinel h4 (g:=7) (ti:=130) (tp:=223) (te:=225) (ts:=9) (by kernel_rfl) (by kernel_rfl) Tryz.underlying130 rowES Tryz.underlying223 Tryz.underlying225 rfl rfl Tryz.underlying9 cellsES cellsS
 have h5:=laidMet.tail h4
 obtain⟨a2,s2,hv2,-,-,-⟩:=laid_sentinel h5 (g:=6) (ti:=130) (tp:=223) (te:=225) (ts:=9) (by kernel_rfl) (by kernel_rfl) Tryz.underlying130 rowES Tryz.underlying223 Tryz.underlying225 rfl rfl Tryz.underlying9 cellsES cellsS
 intro s hs g hg
 simp only[globSpec,List.mem_cons,List.not_mem_nil,or_false]at hs
 rcases hs with rfl|rfl|rfl
 ·obtain⟨e,m,hh⟩:=var_heap ht hg
  exact⟨_,e,m,hh,rfl⟩
 ·obtain⟨e,m,hh⟩:=var_heap hv2 hg
  exact⟨_,e,m,hh,_,_,rfl⟩
 ·obtain⟨e,m,hh⟩:=var_heap hv1 hg
  exact⟨_,e,m,hh,_,_,rfl⟩
end Go.Aa.T
set_option linter.unusedVariables false
set_option linter.unusedSimpArgs false
namespace Go.Aa
variable{P:Program}{R:List (Nat×Nat)}
def rkOf(R:List (Nat×Nat))(u:Nat):Option Nat:=(R.find? fun p=>p.1==u).map (·.2)
def rkB(P:Program)(R:List (Nat×Nat)):Bool:=R.all fun p=>(P.partsOf p.1).all fun v=>match rkOf R v with
 |some r=>Nat.blt r p.2
 |none=>false
theorem rk_part(h:rkB P R=true){u ru v:Nat}(hu:rkOf R u=some ru)(hv:v∈P.partsOf u):∃r,rkOf R v=some r∧r<ru:=by
 unfold rkOf at hu
 obtain⟨p,hp,rfl⟩:=Option.map_eq_some_iff.1 hu
 have hm:=List.mem_of_find?_eq_some hp
 have he:=List.find?_some hp
 simp only[beq_iff_eq]at he
 have h1:=List.all_eq_true.1 h p hm
 rw[he]at h1
 have h2:=List.all_eq_true.1 h1 v hv
 split at h2
 ·rename_i r hr
  exact⟨r,hr,by simpa using h2⟩
 ·cases h2
theorem rk_grow(h:rkB P R=true){s:List TypeId}{r:Nat}(hs:∀x∈s,∃q,rkOf R x=some q∧q≤r):∀x∈P.grow s,∃q,rkOf R x=some q∧q≤r:=by
 intro x hx
 unfold Program.grow at hx
 rw[List.mem_eraseDups,List.mem_append]at hx
 rcases hx with hx|hx
 ·exact hs x hx
 ·obtain⟨u,hu,hx⟩:=List.mem_flatMap.1 hx
  obtain⟨q,hq,hl⟩:=hs u hu
  obtain⟨q',hq',hl'⟩:=rk_part h hq hx
  exact⟨q',hq',by omega⟩
theorem rk_grown(h:rkB P R=true){r:Nat}:∀(n:Nat){s:List TypeId},(∀x∈s,∃q,rkOf R x=some q∧q≤r)→∀x∈P.grown n s,∃q,rkOf R x=some q∧q≤r
 |0,_,hs=>hs
 |n+1,_,hs=>rk_grown h n (rk_grow h hs)
theorem rk_book(h:rkB P R=true){t r:Nat}(ht:rkOf R t=some r):∀x∈P.book t,∃q,rkOf R x=some q∧q≤r:=
 rk_grown h _ fun x hx=>by
  rw[List.mem_singleton]at hx
  subst hx
  exact⟨r,ht,Nat.le_refl _⟩
theorem rk_loops(h:rkB P R=true){t r:Nat}(ht:rkOf R t=some r):P.loopsFrom t=false:=by
 unfold Program.loopsFrom
 rw[List.any_eq_false]
 intro u hu
 obtain⟨ru,hu1,-⟩:=rk_book h ht u hu
 simp only[Bool.not_eq_true]
 rw[List.any_eq_false]
 intro v hv
 obtain⟨rv,hv1,hlt⟩:=rk_part h hu1 hv
 intro hc
 have hm:u∈P.book v:=by simpa using hc
 obtain⟨q,hq,hl⟩:=rk_book h hv1 u hm
 rw[hu1]at hq
 simp only[Option.some.injEq]at hq
 omega
theorem rk_all(h:rkB P R=true){ts:List TypeId}(ht:(ts.all fun t=>(rkOf R t).isSome)=true):ts.any (P.loopsFrom ·)=false:=by
 rw[List.any_eq_false]
 intro t hm
 have:=List.all_eq_true.1 ht t hm
 obtain⟨r,hr⟩:=Option.isSome_iff_exists.1 this
 rw[rk_loops h hr]
 exact Bool.false_ne_true
end Go.Aa
