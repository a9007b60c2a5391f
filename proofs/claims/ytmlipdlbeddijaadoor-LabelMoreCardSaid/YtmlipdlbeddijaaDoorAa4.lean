/-
  FROM THE MACHINE's OPERATIONS TO THE ABSTRACT ONES: by a function that the kernel can run over a program.
-/
import Derived.Test.YtmlipdlbeddijaaDoorAa3
set_option linter.unusedVariables false
set_option linter.unusedSimpArgs false
namespace Go.Aa

def ofV0 : Value → Option AV
  | .bool b => some (.bool b)
  | .int k n => some (.int k n)
  | .float .f64 b => some (.flt b)
  | .string s => some (.str s.data.toList)
  | .pointer none => some .nilptr
  | .slice none 0 0 => some (.sl .full [])
  | .nilFunc => some .nilFunc
  | .nilIface => some .nilIface
  | _ => none
def ofVs : List Value → Option (List AV)
  | [] => some []
  | v :: vs => match ofV0 v, ofVs vs with | some x, some xs => some (x :: xs) | _, _ => none
def ofV : Value → Option AV
  | .agg cs => (ofVs cs.toList).map .agg
  | v => ofV0 v

def cOpd : Operand → Option Opd
  | .tmp t => some (.t t)
  | .const v => (ofV v).map .c
  | .func f => some (.c (.func f []))
  | .global _ => none
def cOpds : List Operand → Option (List Opd)
  | [] => some []
  | x :: xs => match cOpd x, cOpds xs with | some y, some ys => some (y :: ys) | _, _ => none
def cOpt : Option Operand → Option (Option Opd)
  | none => some none
  | some x => (cOpd x).map some

def aggT (P : Program) (t : TypeId) : Option Bool :=
  match P.underlying t with
  | some (.struct _) => some true
  | some (.array _ _) => some true
  | some _ => some false
  | none => none
def sizeT (P : Program) (t : TypeId) : Option Nat := (P.info? t).map (·.size)

/-- A struct of plain cells, one a field, that may be compared: its fields' kinds. -/
def kindsOf (P : Program) : Nat → List Field → Option (List FK)
  | _, [] => some []
  | i, f :: fs => if f.offset = i ∧ f.name ≠ "_" then
      match P.underlying f.type, kindsOf P (i + 1) fs with
      | some (.int _), some ks => some (.i :: ks)
      | some .bool, some ks => some (.b :: ks)
      | some .string, some ks => some (.s :: ks)
      | _, _ => none
    else none
def eqKinds (P : Program) (t : TypeId) : Option (List FK) :=
  match P.underlying t with
  | some (.struct fs) => if P.stoodInHeld t = false ∧ P.eqGuardType P.depth t = false then kindsOf P 0 fs.toList else none
  | _ => none
def binOk (P : Program) (t : TypeId) : Bool :=
  match P.underlying t with
  | some (.int _) => true
  | some (.float .f64) => true
  | some .string => true
  | _ => false
def boolOk (P : Program) (t : TypeId) : Bool :=
  match P.underlying t with
  | some .bool => true
  | _ => false

/-- The literal nil, of its type. -/
def nilOf (P : Program) (t : TypeId) (y : Operand) : Option NK :=
  match P.underlying t, y with
  | some (.slice _), .const (.slice none _ _) => some .sl
  | some (.pointer _), .const (.pointer none) => some .ptr
  | some (.func ..), .const .nilFunc => some .fn
  | some (.interface _), .const .nilIface => some .ifc
  | _, _ => none

def fieldT (P : Program) (s : TypeId) (f : Nat) : Option Field :=
  match P.underlying s with
  | some (.struct fs) => fs[f]?
  | _ => none

def cParts (P : Program) (place : Nat → Option (Nat × Nat)) : List (Nat × Operand) → Option (List (Nat × Nat × Opd))
  | [] => some []
  | (i, x) :: r => match place i, cOpd x, cParts P place r with
    | some (o, n), some y, some ys => some ((o, n, y) :: ys)
    | _, _, _ => none

def zeroCells (P : Program) (t : TypeId) : Option (List AV) :=
  match P.info? t with
  | some i => match i.zero with
    | some z => ofVs z.cells.toList
    | none => none
  | none => none

/-- Where a composite's parts lie, and how great they are. -/
def placesT (P : Program) (t : TypeId) : Option (Nat → Option (Nat × Nat)) :=
  match P.underlying t with
  | some (.struct fs) => match fs.toList.mapM (fun f => (P.info? f.type).map fun i => (f.offset, i.size)) with
    | some ps => some fun i => ps[i]?
    | none => none
  | some (.array _ e) => match P.info? e with
    | some ie => some fun i => some (i * ie.size, ie.size)
    | none => none
  | _ => none

def cBin (P : Program) (op : BinOp) (t : TypeId) (x y : Opd) : Option AOp :=
  if binOk P t = true then some (.bin op x y) else
  if boolOk P t = true then (match op with
    | .eql => some (.eqb false x y)
    | .neq => some (.eqb true x y)
    | _ => none) else
  match op, eqKinds P t with
  | .eql, some ks => some (.eqst false ks x y)
  | .neq, some ks => some (.eqst true ks x y)
  | _, _ => none

def cOp (P : Program) (o : Op) : Option AOp :=
  match o with
  | .move x => (cOpd x).map .mov
  | .assign x => (cOpd x).map .mov
  | .pick c a b => match cOpd c, cOpd a, cOpd b with
    | some c, some a, some b => some (.pick c a b)
    | _, _, _ => none
  | .alloc e => match P.info? e with
    | some i => match i.zero with
      | some z => (ofV z).map fun v => .box (.c v)
      | none => none
    | none => none
  | .box _ x => (cOpd x).map .box
  | .build t parts => match zeroCells P t, placesT P t with
    | some z, some place => (cParts P place parts.toList).map (.build z)
    | _, _ => none
  | .buildSlice t n parts => match P.underlying t with
    | some (.slice e) => match sizeT P e, cOpds (parts.toList.map (·.2)) with
      | some es, some xs => if parts.toList.map (·.1) = List.range n ∧ 0 < es ∧ n * es ≤ 16777216 ∧ (P.info? e).bind (·.zero) ≠ none ∧ ((P.info? e).bind (·.zero)).any (fun z => z.cells.size == es) = true then some (.bslice es xs) else none
      | _, _ => none
    | _ => none
  | .load t a => match aggT P t, sizeT P t, cOpd a with
    | some g, some n, some x => some (.load g n x)
    | _, _, _ => none
  | .store t a v => match sizeT P t, cOpd a, cOpd v with
    | some n, some x, some y => some (.store n x y)
    | _, _, _ => none
  | .nilCheck x => (cOpd x).map .nilchk
  | .binOp op t x y _ => match cOpd x, cOpd y with
    | some x, some y' => match nilOf P t y with
      | some k => (match op with
        | .eql => some (.eqnil false k x)
        | .neq => some (.eqnil true k x)
        | _ => none)
      | none => cBin P op t x y'
    | _, _ => none
  | .unOp op _ x => (cOpd x).map (.un op)
  | .convert s d x => match P.underlying s, P.underlying d, cOpd x with
    | some _, some (.int k), some x => some (.conv (.int k) x)
    | some (.int _), some (.float .f64), some x => some (.conv .flt x)
    | some .string, some .string, some x => some (.conv .str x)
    | some (.slice e), some .string, some x => match P.underlying e with
      | some (.int .u8) => some (.conv .bytes x)
      | _ => none
    | _, _, _ => none
  | .makeInterface t x => match P.underlying t, cOpd x with
    | some (.interface _), _ => none
    | some _, some x => some (.mkiface t x)
    | _, _ => none
  | .makeFunc (.func f) first caps => if first.isEmpty = true then (cOpds caps.toList).map (.mkfunc f) else none
  | .slice t x lo hi mx => match cOpd x, cOpt lo, cOpt hi, cOpt mx with
    | some x, some lo, some hi, some mx => match P.underlying t with
      | some .string => some (.slice 0 x lo hi mx)
      | some (.slice e) => match sizeT P e with
        | some es => if es = 0 then none else some (.slice es x lo hi mx)
        | none => none
      | _ => none
    | _, _, _, _ => none
  | .fieldAddr s x f => match fieldT P s f, cOpd x with
    | some f, some x => match sizeT P f.type with
      | some n => if n = 0 then none else some (.fld f.offset n x)
      | none => none
    | _, _ => none
  | .field s x f => match fieldT P s f, cOpd x with
    | some f, some x => match aggT P f.type, sizeT P f.type with
      | some g, some n => if g = false ∧ n ≠ 1 then none else some (.fldv g f.offset n x)
      | _, _ => none
    | _, _ => none
  | .indexAddr t x i => match P.underlying t, cOpd x, cOpd i with
    | some (.slice e), some x, some i => (sizeT P e).map fun es => .idx es x i
    | _, _, _ => none
  | .index t x i => match P.underlying t, cOpd x, cOpd i with
    | some .string, some x, some i => some (.idxs x i)
    | _, _, _ => none
  | .extract x i => (cOpd x).map fun x => .extract x i
  | .call c => match c.callee with
    | .value f => match cOpd f, cOpds c.args.toList with
      | some f, some as => some (.call f as)
      | _, _ => none
    | .builtin .len => match c.args.toList, c.argTypes.toList with
      | [x], [t] => match P.underlying t, cOpd x with
        | some .string, some x => some (.len true x)
        | some (.slice _), some x => some (.len false x)
        | _, _ => none
      | _, _ => none
    | .builtin .append => match c.args.toList, c.argTypes.toList with
      | [x, y], [t, u] => match P.underlying t, P.underlying u, cOpd x, cOpd y with
        | some (.slice e), some (.slice _), some x, some y => match P.info? e with
          | some i => if 0 < i.size ∧ 0 < i.bytes ∧ i.zero.any (fun z => z.cells.size == i.size) = true then some (.append i.size i.bytes x y) else none
          | none => none
        | _, _, _, _ => none
      | _, _ => none
    | .builtin .max => match c.args.toList with
      | [x, y] => match cOpd x, cOpd y with
        | some x, some y => some (.mm true x y)
        | _, _ => none
      | _ => none
    | .builtin .min => match c.args.toList with
      | [x, y] => match cOpd x, cOpd y with
        | some x, some y => some (.mm false x y)
        | _, _ => none
      | _ => none
    | _ => none
  | .panic x => (cOpd x).map .panic
  | _ => none

/-! ### Which operations may change places -/
inductive Cls where
  | pure | read | alloc | app | call | store | pan
  deriving DecidableEq
def clsOf : AOp → Cls
  | .box _ => .alloc
  | .load .. => .read
  | .store .. => .store
  | .append .. => .app
  | .call .. => .call
  | .panic _ => .pan
  | _ => .pure
def compat : Cls → Cls → Bool
  | .pan, _ => false
  | _, .pan => false
  | .pure, _ => true
  | _, .pure => true
  | .read, .read => true
  | .read, .app => true
  | .app, .read => true
  | .read, .call => true
  | .call, .read => true
  | .alloc, .app => true
  | .read, .alloc => true
  | .app, .alloc => true
  | _, _ => false

def opdUse : Opd → List Nat
  | .t n => [n]
  | .c _ => []
def optUse : Option Opd → List Nat
  | some x => opdUse x
  | none => []
def opUse : AOp → List Nat
  | .mov x | .box x | .load _ _ x | .nilchk x | .un _ x | .conv _ x | .mkiface _ x | .fld _ _ x | .fldv _ _ _ x | .extract x _ | .len _ x | .panic x | .eqnil _ _ x => opdUse x
  | .pick c a b => opdUse c ++ opdUse a ++ opdUse b
  | .build _ ps => ps.flatMap fun p => opdUse p.2.2
  | .bslice _ xs => xs.flatMap opdUse
  | .store _ x y | .bin _ x y | .eqst _ _ x y | .eqb _ x y | .idx _ x y | .idxs x y | .append _ _ x y | .mm _ x y => opdUse x ++ opdUse y
  | .mkfunc _ xs => xs.flatMap opdUse
  | .slice _ x lo hi mx => opdUse x ++ optUse lo ++ optUse hi ++ optUse mx
  | .call f xs => opdUse f ++ xs.flatMap opdUse
def AOper.use (o : AOper) : List Nat := opUse o.op ++ (match o.guard with | some (g, _) => [g] | none => [])
def apartA (a b : AOper) : Bool :=
  compat (clsOf a.op) (clsOf b.op) &&
  (match a.dst with | some d => !b.use.contains d && b.dst != some d | none => true) &&
  (match b.dst with | some d => !a.use.contains d | none => true)
/-- Of each two operations the later one is behind the earlier one, or they may change places. -/
def drawOk (ops : List AOper) : Bool :=
  ops.zipIdx.all fun b => b.1.deps.all (fun j => decide (j < b.2)) && ops.zipIdx.all fun a => decide (b.2 ≤ a.2) || b.1.deps.contains a.2 || apartA a.1 b.1

def hard (e : Edge) : Bool := match e.ground with | .textOnly _ => false | .gcOnly _ => false | _ => true
/-- All that an operation stands behind. -/
def depsOf (acc : List (List Nat)) (es : List Edge) : List Nat :=
  (es.filter hard).foldl (fun s e => (e.on :: acc.getD e.on []).foldl (fun s x => if s.contains x then s else x :: s) s) []

def cOper (P : Program) (nt : Nat) (ops : Array Oper) (acc : List (List Nat)) (o : Oper) : Option AOper :=
  if o.dst.all (fun d => decide (d < nt)) = false then none else
  match cOp P o.op with
  | none => none
  | some op => match o.guard with
    | none => some { dst := o.dst, op, guard := none, deps := depsOf acc o.after.toList }
    | some (j, want) => match (ops[j]?).bind (·.dst) with
      | some g => some { dst := o.dst, op, guard := some (g, want), deps := depsOf acc o.after.toList }
      | none => none
def cOpers (P : Program) (nt : Nat) (ops : Array Oper) : List (List Nat) → List Oper → Option (List AOper)
  | _, [] => some []
  | acc, o :: r => match cOper P nt ops acc o with
    | none => none
    | some a => match cOpers P nt ops (acc ++ [a.deps]) r with
      | some as => some (a :: as)
      | none => none

/-- Where the order is the text's, nobody asks what stands behind what. -/
def AOper.bare (o : AOper) : AOper := { o with deps := [] }

def cCode (P : Program) (nt : Nat) : Code → Option ACode
  | .skip => some .skip
  | .region _ ops draw => match cOpers P nt ops [] ops.toList with
    | some as => if draw = true ∧ drawOk as = false then none else some (.region (if draw = true then as else as.map AOper.bare) draw)
    | none => none
  | .seq a b => match cCode P nt a, cCode P nt b with
    | some a, some b => some (.seq a b)
    | _, _ => none
  | .cond c a b => match cOpd c, cCode P nt a, cCode P nt b with
    | some c, some a, some b => some (.cond c a b)
    | _, _, _ => none
  | .block id b => (cCode P nt b).map (.block id)
  | .loop b => (cCode P nt b).map .loop
  | .exit id => some (.exit id)
  | .ret => some .ret
  | .rangeFunc f ps assign body => match cOpd f, cCode P nt assign, cCode P nt body with
    | some f, some a, some b => if ps.toList.all (fun d => decide (d < nt)) = true then some (.range f ps.toList a b) else none
    | _, _, _ => none
  | _ => none

def cRes (P : Program) : List ResultVar → Option (List ARV)
  | [] => some []
  | .tmp t :: r => (cRes P r).map (.tmp t :: ·)
  | .cell t ty :: r => match aggT P ty, sizeT P ty, cRes P r with
    | some g, some n, some rs => some (.cell t g n :: rs)
    | _, _, _ => none

def cFunc (P : Program) (f : Func) : Option AFunc :=
  match f.body with
  | some c => match cCode P f.ntmps c, cRes P f.results.toList with
    | some b, some rs => if (f.name == "runtime.NumGoroutine") = true then none else some { results := rs, body := b }
    | _, _ => none
  | none => none

end Go.Aa
