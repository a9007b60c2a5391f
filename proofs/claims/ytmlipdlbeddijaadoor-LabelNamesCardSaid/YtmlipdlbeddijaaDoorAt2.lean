/-
  THIS SEAT's CONFIGURATION: its functions, the library's; printed by a program (wip/tool/mkAt2.py).
-/
import Derived.Test.YtmlipdlbeddijaaDoorAt1
import Derived.Test.YtmlipdlbeddijaaDoorAaM
import Derived.Test.YtmlipdlbeddijaaDoorAaU
set_option linter.unusedVariables false
set_option maxRecDepth 100000
namespace Go.Aa.T
open Go.Aa
def extF : Nat → Option (List AV → Heap → Option (AV × Heap))
  | 97 => some trimE
  | 99 => some joinE
  | 105 => some indexE
  | 112 => some countE
  | 125 => some indexE
  | _ => none
def isTry (f : Nat) : Bool := f == 101
def cfg : Cfg := { F := tabF, ext := extF, tryF := isTry, stopT := 159 }
def okR : Option (ARes × Heap) → Bool
  | some (.ret (.bool b), _) => b
  | _ => false
theorem known13 : okR (callN cfg 3000 (.fn 13) [] Heap.nil) = true := by kernel_rfl
theorem known_ret13 : ∃ H', lim cfg (.fn 13) [] Heap.nil = some (.ret (.bool true), H') := by
  have h := known13
  unfold okR at h
  split at h
  · rename_i b H' hc
    subst h
    exact ⟨H', lim_of hc⟩
  · cases h
theorem known38 : okR (callN cfg 3000 (.fn 38) [] Heap.nil) = true := by kernel_rfl
theorem known_ret38 : ∃ H', lim cfg (.fn 38) [] Heap.nil = some (.ret (.bool true), H') := by
  have h := known38
  unfold okR at h
  split at h
  · rename_i b H' hc
    subst h
    exact ⟨H', lim_of hc⟩
  · cases h
theorem l3 (xs : List AV) (H : Heap) : lim cfg (.fn 3) xs H = runL cfg a3 [.c c3] (initEnv xs) H := lim_fn rfl rfl rfl xs H
theorem l4 (xs : List AV) (H : Heap) : lim cfg (.fn 4) xs H = runL cfg a4 [.c c4] (initEnv xs) H := lim_fn rfl rfl rfl xs H
theorem l5 (xs : List AV) (H : Heap) : lim cfg (.fn 5) xs H = runL cfg a5 [.c c5] (initEnv xs) H := lim_fn rfl rfl rfl xs H
theorem l6 (xs : List AV) (H : Heap) : lim cfg (.fn 6) xs H = runL cfg a6 [.c c6] (initEnv xs) H := lim_fn rfl rfl rfl xs H
theorem l7 (xs : List AV) (H : Heap) : lim cfg (.fn 7) xs H = runL cfg a7 [.c c7] (initEnv xs) H := lim_fn rfl rfl rfl xs H
theorem l8 (xs : List AV) (H : Heap) : lim cfg (.fn 8) xs H = runL cfg a8 [.c c8] (initEnv xs) H := lim_fn rfl rfl rfl xs H
theorem l9 (xs : List AV) (H : Heap) : lim cfg (.fn 9) xs H = runL cfg a9 [.c c9] (initEnv xs) H := lim_fn rfl rfl rfl xs H
theorem l10 (xs : List AV) (H : Heap) : lim cfg (.fn 10) xs H = runL cfg a10 [.c c10] (initEnv xs) H := lim_fn rfl rfl rfl xs H
theorem l11 (xs : List AV) (H : Heap) : lim cfg (.fn 11) xs H = runL cfg a11 [.c c11] (initEnv xs) H := lim_fn rfl rfl rfl xs H
theorem l12 (xs : List AV) (H : Heap) : lim cfg (.fn 12) xs H = runL cfg a12 [.c c12] (initEnv xs) H := lim_fn rfl rfl rfl xs H
theorem l13 (xs : List AV) (H : Heap) : lim cfg (.fn 13) xs H = runL cfg a13 [.c c13] (initEnv xs) H := lim_fn rfl rfl rfl xs H
theorem l14 (xs : List AV) (H : Heap) : lim cfg (.fn 14) xs H = runL cfg a14 [.c c14] (initEnv xs) H := lim_fn rfl rfl rfl xs H
theorem l15 (xs : List AV) (H : Heap) : lim cfg (.fn 15) xs H = runL cfg a15 [.c c15] (initEnv xs) H := lim_fn rfl rfl rfl xs H
theorem l16 (xs : List AV) (H : Heap) : lim cfg (.fn 16) xs H = runL cfg a16 [.c c16] (initEnv xs) H := lim_fn rfl rfl rfl xs H
theorem l17 (xs : List AV) (H : Heap) : lim cfg (.fn 17) xs H = runL cfg a17 [.c c17] (initEnv xs) H := lim_fn rfl rfl rfl xs H
theorem l18 (xs : List AV) (H : Heap) : lim cfg (.fn 18) xs H = runL cfg a18 [.c c18] (initEnv xs) H := lim_fn rfl rfl rfl xs H
theorem l19 (xs : List AV) (H : Heap) : lim cfg (.fn 19) xs H = runL cfg a19 [.c c19] (initEnv xs) H := lim_fn rfl rfl rfl xs H
theorem l20 (xs : List AV) (H : Heap) : lim cfg (.fn 20) xs H = runL cfg a20 [.c c20] (initEnv xs) H := lim_fn rfl rfl rfl xs H
theorem l21 (xs : List AV) (H : Heap) : lim cfg (.fn 21) xs H = runL cfg a21 [.c c21] (initEnv xs) H := lim_fn rfl rfl rfl xs H
theorem l22 (xs : List AV) (H : Heap) : lim cfg (.fn 22) xs H = runL cfg a22 [.c c22] (initEnv xs) H := lim_fn rfl rfl rfl xs H
theorem l23 (xs : List AV) (H : Heap) : lim cfg (.fn 23) xs H = runL cfg a23 [.c c23] (initEnv xs) H := lim_fn rfl rfl rfl xs H
theorem l24 (xs : List AV) (H : Heap) : lim cfg (.fn 24) xs H = runL cfg a24 [.c c24] (initEnv xs) H := lim_fn rfl rfl rfl xs H
theorem l25 (xs : List AV) (H : Heap) : lim cfg (.fn 25) xs H = runL cfg a25 [.c c25] (initEnv xs) H := lim_fn rfl rfl rfl xs H
theorem l26 (xs : List AV) (H : Heap) : lim cfg (.fn 26) xs H = runL cfg a26 [.c c26] (initEnv xs) H := lim_fn rfl rfl rfl xs H
theorem l27 (xs : List AV) (H : Heap) : lim cfg (.fn 27) xs H = runL cfg a27 [.c c27] (initEnv xs) H := lim_fn rfl rfl rfl xs H
theorem l28 (xs : List AV) (H : Heap) : lim cfg (.fn 28) xs H = runL cfg a28 [.c c28] (initEnv xs) H := lim_fn rfl rfl rfl xs H
theorem l29 (xs : List AV) (H : Heap) : lim cfg (.fn 29) xs H = runL cfg a29 [.c c29] (initEnv xs) H := lim_fn rfl rfl rfl xs H
theorem l30 (xs : List AV) (H : Heap) : lim cfg (.fn 30) xs H = runL cfg a30 [.c c30] (initEnv xs) H := lim_fn rfl rfl rfl xs H
theorem l31 (xs : List AV) (H : Heap) : lim cfg (.fn 31) xs H = runL cfg a31 [.c c31] (initEnv xs) H := lim_fn rfl rfl rfl xs H
theorem l32 (xs : List AV) (H : Heap) : lim cfg (.fn 32) xs H = runL cfg a32 [.c c32] (initEnv xs) H := lim_fn rfl rfl rfl xs H
theorem l33 (xs : List AV) (H : Heap) : lim cfg (.fn 33) xs H = runL cfg a33 [.c c33] (initEnv xs) H := lim_fn rfl rfl rfl xs H
theorem l34 (xs : List AV) (H : Heap) : lim cfg (.fn 34) xs H = runL cfg a34 [.c c34] (initEnv xs) H := lim_fn rfl rfl rfl xs H
theorem l35 (xs : List AV) (H : Heap) : lim cfg (.fn 35) xs H = runL cfg a35 [.c c35] (initEnv xs) H := lim_fn rfl rfl rfl xs H
theorem l36 (xs : List AV) (H : Heap) : lim cfg (.fn 36) xs H = runL cfg a36 [.c c36] (initEnv xs) H := lim_fn rfl rfl rfl xs H
theorem l37 (xs : List AV) (H : Heap) : lim cfg (.fn 37) xs H = runL cfg a37 [.c c37] (initEnv xs) H := lim_fn rfl rfl rfl xs H
theorem l38 (xs : List AV) (H : Heap) : lim cfg (.fn 38) xs H = runL cfg a38 [.c c38] (initEnv xs) H := lim_fn rfl rfl rfl xs H
theorem l39 (xs : List AV) (H : Heap) : lim cfg (.fn 39) xs H = runL cfg a39 [.c c39] (initEnv xs) H := lim_fn rfl rfl rfl xs H
theorem l40 (xs : List AV) (H : Heap) : lim cfg (.fn 40) xs H = runL cfg a40 [.c c40] (initEnv xs) H := lim_fn rfl rfl rfl xs H
theorem l41 (xs : List AV) (H : Heap) : lim cfg (.fn 41) xs H = runL cfg a41 [.c c41] (initEnv xs) H := lim_fn rfl rfl rfl xs H
theorem l42 (xs : List AV) (H : Heap) : lim cfg (.fn 42) xs H = runL cfg a42 [.c c42] (initEnv xs) H := lim_fn rfl rfl rfl xs H
theorem l43 (xs : List AV) (H : Heap) : lim cfg (.fn 43) xs H = runL cfg a43 [.c c43] (initEnv xs) H := lim_fn rfl rfl rfl xs H
theorem l44 (xs : List AV) (H : Heap) : lim cfg (.fn 44) xs H = runL cfg a44 [.c c44] (initEnv xs) H := lim_fn rfl rfl rfl xs H
theorem l45 (xs : List AV) (H : Heap) : lim cfg (.fn 45) xs H = runL cfg a45 [.c c45] (initEnv xs) H := lim_fn rfl rfl rfl xs H
theorem l46 (xs : List AV) (H : Heap) : lim cfg (.fn 46) xs H = runL cfg a46 [.c c46] (initEnv xs) H := lim_fn rfl rfl rfl xs H
theorem l47 (xs : List AV) (H : Heap) : lim cfg (.fn 47) xs H = runL cfg a47 [.c c47] (initEnv xs) H := lim_fn rfl rfl rfl xs H
theorem l48 (xs : List AV) (H : Heap) : lim cfg (.fn 48) xs H = runL cfg a48 [.c c48] (initEnv xs) H := lim_fn rfl rfl rfl xs H
theorem l49 (xs : List AV) (H : Heap) : lim cfg (.fn 49) xs H = runL cfg a49 [.c c49] (initEnv xs) H := lim_fn rfl rfl rfl xs H
theorem l50 (xs : List AV) (H : Heap) : lim cfg (.fn 50) xs H = runL cfg a50 [.c c50] (initEnv xs) H := lim_fn rfl rfl rfl xs H
theorem l51 (xs : List AV) (H : Heap) : lim cfg (.fn 51) xs H = runL cfg a51 [.c c51] (initEnv xs) H := lim_fn rfl rfl rfl xs H
theorem l52 (xs : List AV) (H : Heap) : lim cfg (.fn 52) xs H = runL cfg a52 [.c c52] (initEnv xs) H := lim_fn rfl rfl rfl xs H
theorem l53 (xs : List AV) (H : Heap) : lim cfg (.fn 53) xs H = runL cfg a53 [.c c53] (initEnv xs) H := lim_fn rfl rfl rfl xs H
theorem l54 (xs : List AV) (H : Heap) : lim cfg (.fn 54) xs H = runL cfg a54 [.c c54] (initEnv xs) H := lim_fn rfl rfl rfl xs H
theorem l55 (xs : List AV) (H : Heap) : lim cfg (.fn 55) xs H = runL cfg a55 [.c c55] (initEnv xs) H := lim_fn rfl rfl rfl xs H
theorem l56 (xs : List AV) (H : Heap) : lim cfg (.fn 56) xs H = runL cfg a56 [.c c56] (initEnv xs) H := lim_fn rfl rfl rfl xs H
theorem l57 (xs : List AV) (H : Heap) : lim cfg (.fn 57) xs H = runL cfg a57 [.c c57] (initEnv xs) H := lim_fn rfl rfl rfl xs H
theorem l58 (xs : List AV) (H : Heap) : lim cfg (.fn 58) xs H = runL cfg a58 [.c c58] (initEnv xs) H := lim_fn rfl rfl rfl xs H
theorem l59 (xs : List AV) (H : Heap) : lim cfg (.fn 59) xs H = runL cfg a59 [.c c59] (initEnv xs) H := lim_fn rfl rfl rfl xs H
theorem l60 (xs : List AV) (H : Heap) : lim cfg (.fn 60) xs H = runL cfg a60 [.c c60] (initEnv xs) H := lim_fn rfl rfl rfl xs H
theorem l61 (xs : List AV) (H : Heap) : lim cfg (.fn 61) xs H = runL cfg a61 [.c c61] (initEnv xs) H := lim_fn rfl rfl rfl xs H
theorem l62 (xs : List AV) (H : Heap) : lim cfg (.fn 62) xs H = runL cfg a62 [.c c62] (initEnv xs) H := lim_fn rfl rfl rfl xs H
theorem l63 (xs : List AV) (H : Heap) : lim cfg (.fn 63) xs H = runL cfg a63 [.c c63] (initEnv xs) H := lim_fn rfl rfl rfl xs H
theorem l64 (xs : List AV) (H : Heap) : lim cfg (.fn 64) xs H = runL cfg a64 [.c c64] (initEnv xs) H := lim_fn rfl rfl rfl xs H
theorem l65 (xs : List AV) (H : Heap) : lim cfg (.fn 65) xs H = runL cfg a65 [.c c65] (initEnv xs) H := lim_fn rfl rfl rfl xs H
theorem l66 (xs : List AV) (H : Heap) : lim cfg (.fn 66) xs H = runL cfg a66 [.c c66] (initEnv xs) H := lim_fn rfl rfl rfl xs H
theorem l67 (xs : List AV) (H : Heap) : lim cfg (.fn 67) xs H = runL cfg a67 [.c c67] (initEnv xs) H := lim_fn rfl rfl rfl xs H
theorem l68 (xs : List AV) (H : Heap) : lim cfg (.fn 68) xs H = runL cfg a68 [.c c68] (initEnv xs) H := lim_fn rfl rfl rfl xs H
theorem l69 (xs : List AV) (H : Heap) : lim cfg (.fn 69) xs H = runL cfg a69 [.c c69] (initEnv xs) H := lim_fn rfl rfl rfl xs H
theorem l70 (xs : List AV) (H : Heap) : lim cfg (.fn 70) xs H = runL cfg a70 [.c c70] (initEnv xs) H := lim_fn rfl rfl rfl xs H
theorem l71 (xs : List AV) (H : Heap) : lim cfg (.fn 71) xs H = runL cfg a71 [.c c71] (initEnv xs) H := lim_fn rfl rfl rfl xs H
theorem l72 (xs : List AV) (H : Heap) : lim cfg (.fn 72) xs H = runL cfg a72 [.c c72] (initEnv xs) H := lim_fn rfl rfl rfl xs H
theorem l73 (xs : List AV) (H : Heap) : lim cfg (.fn 73) xs H = runL cfg a73 [.c c73] (initEnv xs) H := lim_fn rfl rfl rfl xs H
theorem l74 (xs : List AV) (H : Heap) : lim cfg (.fn 74) xs H = runL cfg a74 [.c c74] (initEnv xs) H := lim_fn rfl rfl rfl xs H
theorem l75 (xs : List AV) (H : Heap) : lim cfg (.fn 75) xs H = runL cfg a75 [.c c75] (initEnv xs) H := lim_fn rfl rfl rfl xs H
theorem l76 (xs : List AV) (H : Heap) : lim cfg (.fn 76) xs H = runL cfg a76 [.c c76] (initEnv xs) H := lim_fn rfl rfl rfl xs H
theorem l77 (xs : List AV) (H : Heap) : lim cfg (.fn 77) xs H = runL cfg a77 [.c c77] (initEnv xs) H := lim_fn rfl rfl rfl xs H
theorem l78 (xs : List AV) (H : Heap) : lim cfg (.fn 78) xs H = runL cfg a78 [.c c78] (initEnv xs) H := lim_fn rfl rfl rfl xs H
theorem l79 (xs : List AV) (H : Heap) : lim cfg (.fn 79) xs H = runL cfg a79 [.c c79] (initEnv xs) H := lim_fn rfl rfl rfl xs H
theorem l80 (xs : List AV) (H : Heap) : lim cfg (.fn 80) xs H = runL cfg a80 [.c c80] (initEnv xs) H := lim_fn rfl rfl rfl xs H
theorem l81 (xs : List AV) (H : Heap) : lim cfg (.fn 81) xs H = runL cfg a81 [.c c81] (initEnv xs) H := lim_fn rfl rfl rfl xs H
theorem l82 (xs : List AV) (H : Heap) : lim cfg (.fn 82) xs H = runL cfg a82 [.c c82] (initEnv xs) H := lim_fn rfl rfl rfl xs H
theorem l83 (xs : List AV) (H : Heap) : lim cfg (.fn 83) xs H = runL cfg a83 [.c c83] (initEnv xs) H := lim_fn rfl rfl rfl xs H
theorem l84 (xs : List AV) (H : Heap) : lim cfg (.fn 84) xs H = runL cfg a84 [.c c84] (initEnv xs) H := lim_fn rfl rfl rfl xs H
theorem l85 (xs : List AV) (H : Heap) : lim cfg (.fn 85) xs H = runL cfg a85 [.c c85] (initEnv xs) H := lim_fn rfl rfl rfl xs H
theorem l86 (xs : List AV) (H : Heap) : lim cfg (.fn 86) xs H = runL cfg a86 [.c c86] (initEnv xs) H := lim_fn rfl rfl rfl xs H
theorem l87 (xs : List AV) (H : Heap) : lim cfg (.fn 87) xs H = runL cfg a87 [.c c87] (initEnv xs) H := lim_fn rfl rfl rfl xs H
theorem l88 (xs : List AV) (H : Heap) : lim cfg (.fn 88) xs H = runL cfg a88 [.c c88] (initEnv xs) H := lim_fn rfl rfl rfl xs H
theorem l89 (xs : List AV) (H : Heap) : lim cfg (.fn 89) xs H = runL cfg a89 [.c c89] (initEnv xs) H := lim_fn rfl rfl rfl xs H
theorem l90 (xs : List AV) (H : Heap) : lim cfg (.fn 90) xs H = runL cfg a90 [.c c90] (initEnv xs) H := lim_fn rfl rfl rfl xs H
theorem l91 (xs : List AV) (H : Heap) : lim cfg (.fn 91) xs H = runL cfg a91 [.c c91] (initEnv xs) H := lim_fn rfl rfl rfl xs H
theorem l92 (xs : List AV) (H : Heap) : lim cfg (.fn 92) xs H = runL cfg a92 [.c c92] (initEnv xs) H := lim_fn rfl rfl rfl xs H
theorem l93 (xs : List AV) (H : Heap) : lim cfg (.fn 93) xs H = runL cfg a93 [.c c93] (initEnv xs) H := lim_fn rfl rfl rfl xs H
theorem l94 (xs : List AV) (H : Heap) : lim cfg (.fn 94) xs H = runL cfg a94 [.c c94] (initEnv xs) H := lim_fn rfl rfl rfl xs H
theorem l95 (xs : List AV) (H : Heap) : lim cfg (.fn 95) xs H = runL cfg a95 [.c c95] (initEnv xs) H := lim_fn rfl rfl rfl xs H
theorem l96 (xs : List AV) (H : Heap) : lim cfg (.fn 96) xs H = runL cfg a96 [.c c96] (initEnv xs) H := lim_fn rfl rfl rfl xs H
theorem l98 (xs : List AV) (H : Heap) : lim cfg (.fn 98) xs H = runL cfg a98 [.c c98] (initEnv xs) H := lim_fn rfl rfl rfl xs H
theorem l100 (xs : List AV) (H : Heap) : lim cfg (.fn 100) xs H = runL cfg a100 [.c c100] (initEnv xs) H := lim_fn rfl rfl rfl xs H
theorem l102 (xs : List AV) (H : Heap) : lim cfg (.fn 102) xs H = runL cfg a102 [.c c102] (initEnv xs) H := lim_fn rfl rfl rfl xs H
theorem l103 (xs : List AV) (H : Heap) : lim cfg (.fn 103) xs H = runL cfg a103 [.c c103] (initEnv xs) H := lim_fn rfl rfl rfl xs H
theorem l104 (xs : List AV) (H : Heap) : lim cfg (.fn 104) xs H = runL cfg a104 [.c c104] (initEnv xs) H := lim_fn rfl rfl rfl xs H
theorem l106 (xs : List AV) (H : Heap) : lim cfg (.fn 106) xs H = runL cfg a106 [.c c106] (initEnv xs) H := lim_fn rfl rfl rfl xs H
theorem l107 (xs : List AV) (H : Heap) : lim cfg (.fn 107) xs H = runL cfg a107 [.c c107] (initEnv xs) H := lim_fn rfl rfl rfl xs H
theorem l108 (xs : List AV) (H : Heap) : lim cfg (.fn 108) xs H = runL cfg a108 [.c c108] (initEnv xs) H := lim_fn rfl rfl rfl xs H
theorem l109 (xs : List AV) (H : Heap) : lim cfg (.fn 109) xs H = runL cfg a109 [.c c109] (initEnv xs) H := lim_fn rfl rfl rfl xs H
theorem l110 (xs : List AV) (H : Heap) : lim cfg (.fn 110) xs H = runL cfg a110 [.c c110] (initEnv xs) H := lim_fn rfl rfl rfl xs H
theorem l111 (xs : List AV) (H : Heap) : lim cfg (.fn 111) xs H = runL cfg a111 [.c c111] (initEnv xs) H := lim_fn rfl rfl rfl xs H
theorem l124 (xs : List AV) (H : Heap) : lim cfg (.fn 124) xs H = runL cfg a124 [.c c124] (initEnv xs) H := lim_fn rfl rfl rfl xs H
theorem l126 (xs : List AV) (H : Heap) : lim cfg (.fn 126) xs H = runL cfg a126 [.c c126] (initEnv xs) H := lim_fn rfl rfl rfl xs H
theorem l127 (xs : List AV) (H : Heap) : lim cfg (.fn 127) xs H = runL cfg a127 [.c c127] (initEnv xs) H := lim_fn rfl rfl rfl xs H
theorem l131 (xs : List AV) (H : Heap) : lim cfg (.fn 131) xs H = runL cfg a131 [.c c131] (initEnv xs) H := lim_fn rfl rfl rfl xs H
theorem l136 (xs : List AV) (H : Heap) : lim cfg (.fn 136) xs H = runL cfg a136 [.c c136] (initEnv xs) H := lim_fn rfl rfl rfl xs H
end Go.Aa.T
