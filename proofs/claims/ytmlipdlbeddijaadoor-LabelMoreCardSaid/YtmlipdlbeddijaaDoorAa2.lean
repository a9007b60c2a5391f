/-
  THE ABSTRACT MACHINE: the same statements as the machine's, over abstract values: slices by value, variables in boxes. Computable; no program occurs here.
-/
import Derived.Test.YtmlipdlbeddijaaDoorAa1
set_option linter.unusedVariables false
namespace Go.Aa

inductive Opd where
  | t (n : Nat)
  | c (v : AV)
  deriving Inhabited

abbrev Env := Nat → AV
def upd (T : Env) (d : Nat) (v : AV) : Env := fun i => bif i == d then v else T i
theorem upd_eq (T : Env) (d : Nat) (v : AV) (i : Nat) : upd T d v i = if i = d then v else T i := by
  unfold upd
  by_cases h : i = d
  · rw [if_pos h, show (i == d) = true from by simpa using h]; rfl
  · rw [if_neg h, show (i == d) = false from by simpa using h]; rfl

def ev (T : Env) : Opd → AV
  | .t n => T n
  | .c v => v

inductive CV where
  | int (k : IntKind) | flt | str | bytes
  deriving DecidableEq

inductive FK where
  | i | b | s
  deriving DecidableEq

inductive NK where
  | sl | ptr | fn | ifc
  deriving DecidableEq

inductive AOp where
  | mov (x : Opd)
  | pick (c a b : Opd)
  | box (x : Opd)
  | build (zero : List AV) (parts : List (Nat × Nat × Opd))
  | bslice (es : Nat) (xs : List Opd)
  | load (agg : Bool) (n : Nat) (x : Opd)
  | store (n : Nat) (x v : Opd)
  | nilchk (x : Opd)
  | bin (op : BinOp) (x y : Opd)
  | eqst (neg : Bool) (ks : List FK) (x y : Opd)
  | eqb (neg : Bool) (x y : Opd)
  | eqnil (neg : Bool) (k : NK) (x : Opd)
  | un (op : UnOp) (x : Opd)
  | conv (c : CV) (x : Opd)
  | mkiface (t : TypeId) (x : Opd)
  | mkfunc (f : FuncId) (caps : List Opd)
  | slice (es : Nat) (x : Opd) (lo hi mx : Option Opd)
  | fld (off n : Nat) (x : Opd)
  | fldv (agg : Bool) (off n : Nat) (x : Opd)
  | idx (es : Nat) (x i : Opd)
  | idxs (x i : Opd)
  | extract (x : Opd) (i : Nat)
  | call (f : Opd) (args : List Opd)
  | len (str : Bool) (x : Opd)
  | append (es bytes : Nat) (x y : Opd)
  | mm (max : Bool) (x y : Opd)
  | panic (x : Opd)

structure AOper where
  dst : Option Nat
  op : AOp
  guard : Option (Nat × Bool)
  deps : List Nat

inductive ACode where
  | skip
  | region (ops : List AOper) (draw : Bool)
  | seq (a b : ACode)
  | cond (c : Opd) (a b : ACode)
  | block (id : Nat) (b : ACode)
  | loop (b : ACode)
  | exit (id : Nat)
  | ret
  | range (f : Opd) (ps : List Nat) (assign body : ACode)

inductive ARV where
  | tmp (t : Nat)
  | cell (t : Nat) (agg : Bool) (n : Nat)

structure AFunc where
  results : List ARV
  body : ACode
  round : Bool := false

structure LRec where
  A : AFunc
  T : Env
  ps : List Nat
  assign : ACode
  body : ACode
  busy : Bool
  nb : Nat
  nt : Nat
  nl : Nat

structure Heap where
  boxes : List (List AV)
  toks : List Nat
  loops : List LRec

def Heap.nil : Heap := ⟨[], [], []⟩

inductive ARes where
  | ret (v : AV)
  | pan (v : AV)

inductive Out where
  | val (v : AV) (H : Heap)
  | pan (v : AV) (H : Heap)

/-- A value's shape as it goes into a slice, an argument or a result: no token goes along. -/
def shut1 : AV → AV
  | .sl (.own _) l => .sl .sh l
  | .sl .full l => .sl .sh l
  | x => x
def shut2 : AV → AV
  | .agg cs => .agg (cs.map shut1)
  | x => shut1 x
def shutA : AV → AV
  | .tuple cs => .tuple (cs.map shut2)
  | x => shut2 x

/-- Is it data: no pointer into a box, no token? (What stands in a slice is.) -/
def data0 : AV → Bool
  | .bool _ | .int .. | .flt _ | .nan | .str _ | .nilptr | .nilFunc | .nilIface => true
  | .sl k _ => match k with | .own _ => false | _ => true
  | .ref _ => true
  | _ => false
def data1 : AV → Bool
  | .agg cs => cs.all data0
  | .func _ cs => cs.all data0
  | x => data0 x
def data2 : AV → Bool
  | .iface _ v => data1 v
  | x => data1 x
def isData : AV → Bool
  | .tuple cs => cs.all data2
  | x => data2 x

/-! ### Values -/
/-- May it stand in a cell? -/
def cellOk : AV → Bool
  | .undef | .agg _ | .tuple _ => false
  | _ => true
/-- Is it known to be of n cells? -/
def cellsN (n : Nat) : AV → Bool
  | .undef | .tuple _ => false
  | .agg cs => cs.length == n
  | _ => n == 1
def fltOrd (a b : Option Nat) : Option Ordering := match a, b with | some x, some y => FloatKind.f64.format.order x y | _, _ => none
def fltAr (f : Nat → Nat → Option Nat) (a b : Option Nat) : Option AV := match a, b with
  | some x, some y => match f x y with | some z => some (.flt z) | none => some .nan
  | _, _ => some .nan
def fltBin (op : BinOp) (a b : Option Nat) : Option AV :=
  match op with
  | .eql => some (.bool (fltOrd a b == some .eq))
  | .neq => some (.bool (fltOrd a b != some .eq))
  | .lss => some (.bool (fltOrd a b == some .lt))
  | .leq => some (.bool (fltOrd a b == some .lt || fltOrd a b == some .eq))
  | .gtr => some (.bool (fltOrd a b == some .gt))
  | .geq => some (.bool (fltOrd a b == some .gt || fltOrd a b == some .eq))
  | .add => fltAr FloatKind.f64.format.add a b
  | .sub => fltAr FloatKind.f64.format.sub a b
  | .mul => fltAr FloatKind.f64.format.mul a b
  | .quo => fltAr FloatKind.f64.format.div a b
  | _ => none

def intBin (op : BinOp) (k : IntKind) (a b : Int) : Option AV :=
  match op with
  | .add => some (.int k (k.wrap (a + b)))
  | .sub => some (.int k (k.wrap (a - b)))
  | .mul => some (.int k (k.wrap (a * b)))
  | .quo => if b = 0 then none else some (.int k (k.wrap (a.tdiv b)))
  | .rem => if b = 0 then none else some (.int k (a.tmod b))
  | .eql => some (.bool (a == b))
  | .neq => some (.bool (a != b))
  | .lss => some (.bool (decide (a < b)))
  | .leq => some (.bool (decide (a ≤ b)))
  | .gtr => some (.bool (decide (b < a)))
  | .geq => some (.bool (decide (b ≤ a)))
  | .and => some (.int k (k.wrap (BitVec.ofInt k.bits a &&& BitVec.ofInt k.bits b).toNat))
  | .or => some (.int k (k.wrap (BitVec.ofInt k.bits a ||| BitVec.ofInt k.bits b).toNat))
  | .xor => some (.int k (k.wrap (BitVec.ofInt k.bits a ^^^ BitVec.ofInt k.bits b).toNat))
  | .andNot => some (.int k (k.wrap (BitVec.ofInt k.bits a &&& ~~~BitVec.ofInt k.bits b).toNat))
  | _ => none

def intShift (op : BinOp) (k : IntKind) (a b : Int) : Option AV :=
  match op with
  | .shl => if b < 0 then none else some (.int k (k.wrap (a * 2 ^ (min b.toNat k.bits))))
  | .shr => if b < 0 then none else some (.int k (a.fdiv (2 ^ (min b.toNat k.bits))))
  | _ => none

def strBin (op : BinOp) (a b : List UInt8) : Option AV :=
  match op with
  | .add => if a.length + b.length ≤ 4611686018427387904 then some (.str (a ++ b)) else none
  | .eql => some (.bool (a == b))
  | .neq => some (.bool (!(a == b)))
  | .lss => some (.bool (Op.bytesLess a b))
  | .leq => some (.bool (Op.bytesLess a b || a == b))
  | .gtr => some (.bool (!(Op.bytesLess a b || a == b)))
  | .geq => some (.bool (!Op.bytesLess a b))
  | _ => none

def eqLeaf : FK → AV → AV → Option Bool
  | .i, .int k a, .int k' b => if k = k' then some (a == b) else none
  | .b, .bool a, .bool b => some (a == b)
  | .s, .str a, .str b => some (a == b)
  | _, _, _ => none
def eqCells : List FK → List AV → List AV → Option Bool
  | [], [], [] => some true
  | k :: ks, x :: xs, y :: ys => match eqLeaf k x y, eqCells ks xs ys with
    | some a, some b => some (a && b)
    | _, _ => none
  | _, _, _ => none
def eqstA (neg : Bool) (ks : List FK) : AV → AV → Option AV
  | .agg xs, .agg ys => match eqCells ks xs ys with
    | some b => some (.bool (if neg then !b else b))
    | none => none
  | _, _ => none

def binA (op : BinOp) : AV → AV → Option AV
  | .int k a, .int k' b =>
    match op with
    | .shl | .shr => intShift op k a b
    | _ => if k = k' then intBin op k a b else none
  | .flt a, .flt b => fltBin op (some a) (some b)
  | .nan, .flt b => fltBin op none (some b)
  | .flt a, .nan => fltBin op (some a) none
  | .nan, .nan => fltBin op none none
  | .str a, .str b => strBin op a b
  | _, _ => none

def eqbA (neg : Bool) : AV → AV → Option AV
  | .bool a, .bool b => some (.bool (if neg then !(a == b) else a == b))
  | _, _ => none

/-- Compared with nil: an empty slice may be nil or not. -/
def eqnilA (neg : Bool) : NK → AV → Option AV
  | .sl, .sl _ (_ :: _) => some (.bool neg)
  | .sl, .msl .. => some (.bool neg)
  | .ptr, .ptr .. => some (.bool neg)
  | .ptr, .ref _ => some (.bool neg)
  | .ptr, .nilptr => some (.bool !neg)
  | .fn, .func .. => some (.bool neg)
  | .fn, .nilFunc => some (.bool !neg)
  | .ifc, .iface .. => some (.bool neg)
  | .ifc, .nilIface => some (.bool !neg)
  | _, _ => none

def unA (op : UnOp) : AV → Option AV
  | .bool b => match op with | .not => some (.bool !b) | _ => none
  | .int k n => match op with | .neg => some (.int k (k.wrap (0 - n))) | _ => none
  | .flt b => match op with | .neg => some (.flt (Op.negFloat .f64 b)) | _ => none
  | _ => none

def byteOfA : AV → Option UInt8
  | .int .u8 n => some (UInt8.ofNat n.toNat)
  | _ => none
def bytesA : List AV → Option (List UInt8)
  | [] => some []
  | x :: xs => match byteOfA x, bytesA xs with | some b, some bs => some (b :: bs) | _, _ => none

def convA : CV → AV → Option AV
  | .int k, .int _ n => some (.int k (k.wrap n))
  | .flt, .int _ n => some (.flt (FloatKind.f64.nearest n))
  | .str, .str s => some (.str s)
  | .bytes, .sl _ l => (bytesA l).map .str
  | _, _ => none

def lenA : Bool → AV → Option AV
  | true, .str s => some (.int .i64 s.length)
  | false, .sl _ l => some (.int .i64 l.length)
  | false, .msl _ _ n => some (.int .i64 n)
  | _, _ => none

def idxA (es : Nat) : AV → AV → Option AV
  | .sl _ l, .int _ i => if 0 ≤ i then match l[i.toNat]? with
      | some e => if cellsN es e = true then some (.ref e.cells) else none
      | none => none
    else none
  | .msl k off n, .int _ i => if 0 ≤ i ∧ i < n then some (.ptr k (off + i.toNat * es)) else none
  | _, _ => none

def idxsA : AV → AV → Option AV
  | .str s, .int _ i => if 0 ≤ i then match s[i.toNat]? with
      | some b => some (.int .u8 b.toNat)
      | none => none
    else none
  | _, _ => none

/-- A bound of a slice expression, at most m. -/
def boundA (m : Nat) : Option AV → Nat → Option Nat
  | none, d => some d
  | some (.int _ i), _ => if 0 ≤ i ∧ i ≤ m then some i.toNat else none
  | some _, _ => none

def sliceStr (s : List UInt8) (lo hi : Option AV) : Option AV :=
  match boundA s.length hi s.length with
  | none => none
  | some h => match boundA h lo 0 with
    | none => none
    | some l => some (.str ((s.take h).drop l))
def sliceSl (es : Nat) (xs : List AV) (lo hi : Option AV) : Option AV :=
  match boundA xs.length hi xs.length with
  | none => none
  | some h => match boundA h lo 0 with
    | none => none
    | some l => match xs[l]? with
      | none => some (.sl .sh [])
      | some e => if cellsN es e = true then some (.sl .sh ((xs.take h).drop l)) else none
def sliceM (es k off n : Nat) (lo hi : Option AV) : Option AV :=
  match boundA n hi n with
  | none => none
  | some h => match boundA h lo 0 with
    | none => none
    | some l => if l < n then some (.msl k (off + l * es) (h - l)) else none
/-- 'es' is 0: a string's type. -/
def sliceA (es : Nat) (x : AV) (lo hi mx : Option AV) : Option AV :=
  match x, mx with
  | .str s, none => if es = 0 then sliceStr s lo hi else none
  | .sl k xs, none => if es = 0 then none else sliceSl es xs lo hi
  | .sl k xs, some (.int k' m) => if es = 0 then none else if m = 0 then (match boundA 0 hi 1, boundA 0 lo 0 with
        | some 0, some 0 => some (.sl .full [])
        | _, _ => none) else none
  | .msl k off n, none => if es = 0 then none else sliceM es k off n lo hi
  | _, _ => none

def fldA (off n : Nat) : AV → Option AV
  | .ptr k o => some (.ptr k (o + off))
  | .ref cs => if off + n ≤ cs.length then some (.ref ((cs.drop off).take n)) else none
  | _ => none

def fldvA (agg : Bool) (off n : Nat) : AV → Option AV
  | .agg cs => if off + n ≤ cs.length then
      if agg then some (.agg ((cs.drop off).take n)) else cs[off]?
    else none
  | _ => none

def extractA (i : Nat) : AV → Option AV
  | .tuple vs => vs[i]?
  | _ => none

/-- Parts pasted over cells. -/
def paste (cells : List AV) (off : Nat) : List AV → List AV
  | [] => cells
  | x :: xs => paste (cells.set off x) (off + 1) xs
def buildA (cells : List AV) : List (Nat × Nat × AV) → Option (List AV)
  | [] => some cells
  | (off, n, v) :: r => if cellsN n v = true ∧ off + n ≤ cells.length then buildA (paste cells off v.cells) r else none

def lenOk (es : Nat) (l : List AV) : Bool := l.all (cellsN es)
def dataOk (l : List AV) : Bool := l.all fun e => e.cells.all data0

def mmA (max : Bool) : AV → AV → Option AV
  | .int k a, .int k' b => if k = k' then some (.int k (if max then (if b > a then b else a) else (if b < a then b else a))) else none
  | _, _ => none

/-! ### The heap -/
def loadA (agg : Bool) (n : Nat) (H : Heap) : AV → Option AV
  | .ref cs => if cs.length = n then
      if agg then some (.agg cs) else match cs with | [x] => some x | _ => none
    else none
  | .ptr k off => match H.boxes[k]? with
    | some cs => if off + n ≤ cs.length then
        if agg then some (.agg ((cs.drop off).take n)) else if n = 1 then cs[off]? else none
      else none
    | none => none
  | _ => none

def storeA (n : Nat) (H : Heap) (p v : AV) : Option Heap :=
  match p with
  | .ptr k off => match H.boxes[k]? with
    | some cs => if off + n ≤ cs.length ∧ cellsN n v = true ∧ v.cells.all cellOk = true then some { H with boxes := H.boxes.set k (paste cs off v.cells) } else none
    | none => none
  | _ => none

def boxA (H : Heap) (v : AV) : AV × Heap := (.ptr H.boxes.length 0, { H with boxes := H.boxes ++ [v.cells] })

def appendA (es bytes : Nat) (H : Heap) : AV → AV → Option (AV × Heap)
  | .sl k l, .sl _ m =>
    match m with
    | [] => some (.sl k l, H)
    | m0 :: m' =>
    if (l.length + (m0 :: m').length) * bytes ≤ 140737488355328 ∧ lenOk es l = true ∧ lenOk es (m0 :: m') = true ∧ dataOk (m0 :: m') = true then
      match k with
      | .sh => none
      | .full => some (.sl (.own H.toks.length) (l ++ (m0 :: m')), { H with toks := H.toks ++ [l.length + (m0 :: m').length] })
      | .own t => if H.toks[t]? = some l.length then some (.sl (.own t) (l ++ (m0 :: m')), { H with toks := H.toks.set t (l.length + (m0 :: m').length) }) else none
    else none
  | _, _ => none

/-- What a value may name: of boxes those below nb, of tokens those below nt. -/
def in0 (nb nt : Nat) : AV → Bool
  | .ptr k _ | .msl k _ _ => decide (k < nb)
  | .sl (.own t) _ => decide (t < nt)
  | .agg _ | .tuple _ | .func _ _ | .iface _ _ | .yield _ => false
  | _ => true
def in1 (nb nt : Nat) : AV → Bool
  | .agg cs => cs.all (in0 nb nt)
  | .func _ cs => cs.all (in0 nb nt)
  | x => in0 nb nt x
def in2 (nb nt : Nat) : AV → Bool
  | .iface _ v => in1 nb nt v
  | x => in1 nb nt x
def within (nb nt : Nat) : AV → Bool
  | .tuple cs => cs.all (in2 nb nt)
  | x => in2 nb nt x

end Go.Aa
