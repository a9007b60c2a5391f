/-
  THIS SEAT's LIBRARY FUNCTIONS, and what is known of the program at closed inputs.
-/
import Derived.Test.YtfcihhbingaofaaAt1
import Derived.Test.YtfcihhbingaofaaAaM
set_option linter.unusedVariables false
set_option maxRecDepth 100000
namespace Go.Aa.T
open Go.Aa

/-- A cell that hangs on no memory. -/
def leaf : AV → Bool
  | .bool _ | .int .. | .flt _ | .nan | .str _ | .nilptr | .nilFunc | .nilIface => true
  | _ => false
def cloneE (xs : List AV) (H : Heap) : Option (AV × Heap) :=
  match xs with
  | [.sl .sh (x :: l)] => if (x :: l).all leaf = true ∧ (x :: l).length ≤ 1000000 then some (.msl H.boxes.length 0 (x :: l).length, { H with boxes := H.boxes ++ [x :: l] }) else none
  | _ => none
def bitsE (xs : List AV) (H : Heap) : Option (AV × Heap) :=
  match xs with
  | [.flt b] => some (.int .u64 b, H)
  | _ => none
def fltOf (b : Nat) : AV := if (FloatKind.f64.format.read b).isNaN = true then .nan else .flt b
def frombitsE (xs : List AV) (H : Heap) : Option (AV × Heap) :=
  match xs with
  | [.int .u64 n] => if 0 ≤ n ∧ n < 18446744073709551616 then some (fltOf n.toNat, H) else none
  | _ => none
def extF : Nat → Option (List AV → Heap → Option (AV × Heap))
  | 33 => some cloneE
  | 38 => some bitsE
  | 43 => some frombitsE
  | _ => none
def cfg : Cfg := { F := tabF, ext := extF, tryF := fun _ => false, stopT := 0 }

def okR : Option (ARes × Heap) → Bool
  | some (.ret (.bool b), _) => b
  | _ => false

theorem known_true : okR (callN cfg 1000 (.fn 10) [] Heap.nil) = true := by kernel_rfl

theorem l3 (xs : List AV) (H : Heap) : lim cfg (.fn 3) xs H = runL cfg a3 [.c c3] (initEnv xs) H := lim_fn rfl rfl rfl xs H
theorem l4 (xs : List AV) (H : Heap) : lim cfg (.fn 4) xs H = runL cfg a4 [.c c4] (initEnv xs) H := lim_fn rfl rfl rfl xs H
theorem l5 (xs : List AV) (H : Heap) : lim cfg (.fn 5) xs H = runL cfg a5 [.c c5] (initEnv xs) H := lim_fn rfl rfl rfl xs H
theorem l6 (xs : List AV) (H : Heap) : lim cfg (.fn 6) xs H = runL cfg a6 [.c c6] (initEnv xs) H := lim_fn rfl rfl rfl xs H
theorem l7 (xs : List AV) (H : Heap) : lim cfg (.fn 7) xs H = runL cfg a7 [.c c7] (initEnv xs) H := lim_fn rfl rfl rfl xs H
theorem l8 (xs : List AV) (H : Heap) : lim cfg (.fn 8) xs H = runL cfg a8 [.c c8] (initEnv xs) H := lim_fn rfl rfl rfl xs H
theorem l9 (xs : List AV) (H : Heap) : lim cfg (.fn 9) xs H = runL cfg a9 [.c c9] (initEnv xs) H := lim_fn rfl rfl rfl xs H
theorem l10 (xs : List AV) (H : Heap) : lim cfg (.fn 10) xs H = runL cfg a10 [.c c10] (initEnv xs) H := lim_fn rfl rfl rfl xs H
theorem l11 (xs : List AV) (H : Heap) : lim cfg (.fn 11) xs H = runL cfg a11 [.c c11] (initEnv xs) H := lim_fn rfl rfl rfl xs H
theorem l12 (xs : List AV) (H : Heap) : lim cfg (.fn 12) xs H = runL cfg a12 [.c c12] (initEnv xs) H := lim_fn rfl rfl rfl xs H
theorem l13 (xs : List AV) (H : Heap) : lim cfg (.fn 13) xs H = runL cfg a13 [.c c13] (initEnv xs) H := lim_fn rfl rfl rfl xs H
theorem l14 (xs : List AV) (H : Heap) : lim cfg (.fn 14) xs H = runL cfg a14 [.c c14] (initEnv xs) H := lim_fn rfl rfl rfl xs H
theorem l15 (xs : List AV) (H : Heap) : lim cfg (.fn 15) xs H = runL cfg a15 [.c c15] (initEnv xs) H := lim_fn rfl rfl rfl xs H
theorem l16 (xs : List AV) (H : Heap) : lim cfg (.fn 16) xs H = runL cfg a16 [.c c16] (initEnv xs) H := lim_fn rfl rfl rfl xs H
theorem l17 (xs : List AV) (H : Heap) : lim cfg (.fn 17) xs H = runL cfg a17 [.c c17] (initEnv xs) H := lim_fn rfl rfl rfl xs H
theorem l18 (xs : List AV) (H : Heap) : lim cfg (.fn 18) xs H = runL cfg a18 [.c c18] (initEnv xs) H := lim_fn rfl rfl rfl xs H
theorem l19 (xs : List AV) (H : Heap) : lim cfg (.fn 19) xs H = runL cfg a19 [.c c19] (initEnv xs) H := lim_fn rfl rfl rfl xs H
theorem l20 (xs : List AV) (H : Heap) : lim cfg (.fn 20) xs H = runL cfg a20 [.c c20] (initEnv xs) H := lim_fn rfl rfl rfl xs H
theorem l21 (xs : List AV) (H : Heap) : lim cfg (.fn 21) xs H = runL cfg a21 [.c c21] (initEnv xs) H := lim_fn rfl rfl rfl xs H
theorem l22 (xs : List AV) (H : Heap) : lim cfg (.fn 22) xs H = runL cfg a22 [.c c22] (initEnv xs) H := lim_fn rfl rfl rfl xs H
theorem l23 (xs : List AV) (H : Heap) : lim cfg (.fn 23) xs H = runL cfg a23 [.c c23] (initEnv xs) H := lim_fn rfl rfl rfl xs H
theorem l24 (xs : List AV) (H : Heap) : lim cfg (.fn 24) xs H = runL cfg a24 [.c c24] (initEnv xs) H := lim_fn rfl rfl rfl xs H
theorem l25 (xs : List AV) (H : Heap) : lim cfg (.fn 25) xs H = runL cfg a25 [.c c25] (initEnv xs) H := lim_fn rfl rfl rfl xs H
theorem l26 (xs : List AV) (H : Heap) : lim cfg (.fn 26) xs H = runL cfg a26 [.c c26] (initEnv xs) H := lim_fn rfl rfl rfl xs H
theorem l27 (xs : List AV) (H : Heap) : lim cfg (.fn 27) xs H = runL cfg a27 [.c c27] (initEnv xs) H := lim_fn rfl rfl rfl xs H
theorem l28 (xs : List AV) (H : Heap) : lim cfg (.fn 28) xs H = runL cfg a28 [.c c28] (initEnv xs) H := lim_fn rfl rfl rfl xs H
theorem l29 (xs : List AV) (H : Heap) : lim cfg (.fn 29) xs H = runL cfg a29 [.c c29] (initEnv xs) H := lim_fn rfl rfl rfl xs H
theorem l30 (xs : List AV) (H : Heap) : lim cfg (.fn 30) xs H = runL cfg a30 [.c c30] (initEnv xs) H := lim_fn rfl rfl rfl xs H
theorem l31 (xs : List AV) (H : Heap) : lim cfg (.fn 31) xs H = runL cfg a31 [.c c31] (initEnv xs) H := lim_fn rfl rfl rfl xs H
theorem l32 (xs : List AV) (H : Heap) : lim cfg (.fn 32) xs H = runL cfg a32 [.c c32] (initEnv xs) H := lim_fn rfl rfl rfl xs H
theorem l34 (xs : List AV) (H : Heap) : lim cfg (.fn 34) xs H = runL cfg a34 [.c c34] (initEnv xs) H := lim_fn rfl rfl rfl xs H
theorem l35 (xs : List AV) (H : Heap) : lim cfg (.fn 35) xs H = runL cfg a35 [.c c35] (initEnv xs) H := lim_fn rfl rfl rfl xs H
theorem l36 (xs : List AV) (H : Heap) : lim cfg (.fn 36) xs H = runL cfg a36 [.c c36] (initEnv xs) H := lim_fn rfl rfl rfl xs H
theorem l37 (xs : List AV) (H : Heap) : lim cfg (.fn 37) xs H = runL cfg a37 [.c c37] (initEnv xs) H := lim_fn rfl rfl rfl xs H
theorem l39 (xs : List AV) (H : Heap) : lim cfg (.fn 39) xs H = runL cfg a39 [.c c39] (initEnv xs) H := lim_fn rfl rfl rfl xs H
theorem l40 (xs : List AV) (H : Heap) : lim cfg (.fn 40) xs H = runL cfg a40 [.c c40] (initEnv xs) H := lim_fn rfl rfl rfl xs H
theorem l41 (xs : List AV) (H : Heap) : lim cfg (.fn 41) xs H = runL cfg a41 [.c c41] (initEnv xs) H := lim_fn rfl rfl rfl xs H
theorem l42 (xs : List AV) (H : Heap) : lim cfg (.fn 42) xs H = runL cfg a42 [.c c42] (initEnv xs) H := lim_fn rfl rfl rfl xs H
theorem l44 (xs : List AV) (H : Heap) : lim cfg (.fn 44) xs H = runL cfg a44 [.c c44] (initEnv xs) H := lim_fn rfl rfl rfl xs H
theorem l45 (xs : List AV) (H : Heap) : lim cfg (.fn 45) xs H = runL cfg a45 [.c c45] (initEnv xs) H := lim_fn rfl rfl rfl xs H
theorem l46 (xs : List AV) (H : Heap) : lim cfg (.fn 46) xs H = runL cfg a46 [.c c46] (initEnv xs) H := lim_fn rfl rfl rfl xs H
theorem l47 (xs : List AV) (H : Heap) : lim cfg (.fn 47) xs H = runL cfg a47 [.c c47] (initEnv xs) H := lim_fn rfl rfl rfl xs H

end Go.Aa.T
