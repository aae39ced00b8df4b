/- From the model's code to the small code. -/
import Derived.Test.YthegocjfnjfkdaaDC
import Derived.Test.YthegocjfnjfkdaaDU
namespace Go.D
set_option linter.all false

def ofS : Value → Option S
  | .bool b => some (.b b)
  | .int k n => some (.i k n)
  | .pointer none => some .np
  | .slice none 0 0 => some .ns
  | .nilFunc => some .nf
  | _ => none

def ofSs : List Value → Option (List S)
  | [] => some []
  | v :: vs => match ofS v, ofSs vs with
    | some s, some l => some (s :: l)
    | _, _ => none

def ofV : Value → Option V
  | .agg cs => (ofSs cs.toList).map V.agg
  | v => (ofS v).map V.s

def compX : Operand → Option Opd
  | .tmp t => some (.t t)
  | .const v => (ofV v).map Opd.k
  | .func f => some (.k (.s (.fn f [])))
  | .global _ => none

def compXs : List Operand → Option (List Opd)
  | [] => some []
  | x :: xs => match compX x, compXs xs with
    | some y, some l => some (y :: l)
    | _, _ => none

/-- A type's zero cells, their number. -/
def zeroOf (P : Program) (t : TypeId) : Option (List S) :=
  match P.info? t with
  | some i => match i.zero with
    | some z => match ofSs z.cells.toList with
      | some l => if l.length = i.size then some l else none
      | none => none
    | none => none
  | none => none

/-- Is a variable of a type many cells (so many), or one? -/
def shapeOf (P : Program) (t : TypeId) : Option (Option Nat) :=
  match P.info? t, P.underlying t with
  | some i, some (.struct _) => some (some i.size)
  | some i, some (.array _ _) => some (some i.size)
  | some _, some _ => some none
  | _, _ => none

/-- The fields lie one behind the other, from an offset on; each of cells that == compares. -/
def flatFs (g : TypeId → Option (List Bool)) : List Field → Nat → Option (List Bool)
  | [], _ => some []
  | f :: fs, n => if f.name ≠ "_" ∧ f.offset = n then (match g f.type with
    | some m => match flatFs g fs (n + m.length) with
      | some l => some (m ++ l)
      | none => none
    | none => none) else none

def rep (m : List Bool) : Nat → List Bool
  | 0 => []
  | n + 1 => m ++ rep m n

/-- Are all cells of a type numbers ('true') or bools that == compares one by one? -/
def flat (P : Program) : Nat → TypeId → Option (List Bool)
  | 0, _ => none
  | d + 1, t => match P.info? t, P.underlying t with
    | some i, some (.int _) => if i.size = 1 then some [true] else none
    | some i, some .bool => if i.size = 1 then some [false] else none
    | some i, some (.struct fs) =>
      if P.stoodInHeld t then none else
      match flatFs (flat P d) fs.toList 0 with
      | some l => if i.size = l.length then some l else none
      | none => none
    | some i, some (.array n e) => match flat P d e with
      | some m => if i.size = (rep m n).length then some (rep m n) else none
      | none => none
    | _, _ => none

def partsOf (P : Program) (place : Nat → Option (Nat × Nat)) : List (Nat × Operand) → Option (List (Nat × Nat × Opd))
  | [] => some []
  | (i, x) :: rest => match place i, compX x, partsOf P place rest with
    | some (off, size), some y, some l => some ((off, size, y) :: l)
    | _, _, _ => none

def fieldPlaces (P : Program) (fs : List Field) (i : Nat) : Option (Nat × Nat) :=
  match fs[i]? with
  | some f => (P.info? f.type).map fun t => (f.offset, t.size)
  | none => none

def allSized (P : Program) (fs : List Field) : Bool := fs.all fun f => (P.info? f.type).isSome

def nilPtr : Operand → Bool
  | .const (.pointer none) => true
  | _ => false
def nilSl : Operand → Bool
  | .const (.slice none 0 0) => true
  | _ => false

def compB : Option Operand → Option (Option Opd)
  | none => some none
  | some y => (compX y).map some

def compI (P : Program) (o : Oper) : Option I :=
  match o.op with
  | .move x | .assign x => (compX x).map I.mv
  | .pick c a b => match compX c, compX a, compX b with
    | some c, some a, some b => some (.pick c a b)
    | _, _, _ => none
  | .alloc t => (zeroOf P t).map I.new
  | .box _ x => (compX x).map I.box
  | .build t parts => match zeroOf P t, P.underlying t with
    | some z, some (.struct fs) => if allSized P fs.toList then (partsOf P (fieldPlaces P fs.toList) parts.toList).map (I.build z) else none
    | some z, some (.array _ e) => match P.info? e with
      | some i => (partsOf P (fun j => some (j * i.size, i.size)) parts.toList).map (I.build z)
      | none => none
    | _, _ => none
  | .buildSlice t n parts => match P.underlying t with
    | some (.slice e) => match P.info? e, zeroOf P e with
      | some i, some z => if n * i.size ≤ 2 ^ 24 ∧ i.size ≠ 0 then (partsOf P (fun j => some (j * i.size, i.size)) parts.toList).map (I.bsl n (zeros z n)) else none
      | _, _ => none
    | _ => none
  | .load t a => match compX a, shapeOf P t with
    | some a, some n => some (.ld a n)
    | _, _ => none
  | .store t a x => match compX a, compX x, P.info? t with
    | some a, some x, some i => some (.st a x i.size)
    | _, _, _ => none
  | .nilCheck x => (compX x).map I.nil
  | .binOp op t x y _ => match compX x, compX y with
    | some x', some y' =>
      match op with
      | .eql | .neq =>
        match P.underlying t with
        | some (.struct _) | some (.array _ _) => match flat P 20 t with
          | some n => if P.eqGuardType P.depth t then none else some (.eqa (op matches .neq) n x' y')
          | none => none
        | some (.pointer _) => if nilPtr y then some (.eqn false (op matches .neq) x') else none
        | some (.slice _) => if nilSl y then some (.eqn true (op matches .neq) x') else none
        | some .bool => some (.eqb (op matches .neq) x' y')
        | some (.int _) => some (.bin op x' y')
        | _ => none
      | _ => some (.bin op x' y')
    | _, _ => none
  | .unOp op _ x => (compX x).map (I.un op)
  | .convert src dst x => match P.underlying src, P.underlying dst, compX x with
    | some _, some (.int k), some x => some (.conv k x)
    | _, _, _ => none
  | .makeFunc (.func f) first caps => if first.isEmpty then (compXs caps.toList).map (I.mkf f) else none
  | .makeSlice t n c => match P.underlying t, compX n, compX c with
    | some (.slice e), some n, some c => match P.info? e, zeroOf P e with
      | some i, some z => if i.size = 0 then none else some (.mks i.size i.bytes z n c)
      | _, _ => none
    | _, _, _ => none
  | .slice t x lo hi mx => match mx with
    | some _ => none
    | none =>
      match compX x, compB lo, compB hi with
      | some x, some lo, some hi => match P.underlying t with
        | some (.slice e) => (P.info? e).map fun i => .slc none i.size x lo hi
        | some (.array n e) => (P.info? e).map fun i => .slc (some n) i.size x lo hi
        | _ => none
      | _, _, _ => none
  | .fieldAddr s x f => match P.underlying s, compX x with
    | some (.struct fs), some x => match fs[f]? with
      | some f => match P.info? f.type with
        | some i => if i.size = 0 then none else some (.fa x f.offset)
        | none => none
      | none => none
    | _, _ => none
  | .field s x f => match P.underlying s, compX x with
    | some (.struct fs), some x => match fs[f]? with
      | some f => (shapeOf P f.type).map fun n => .fld x f.offset n
      | none => none
    | _, _ => none
  | .indexAddr t x i => match P.underlying t, compX x, compX i with
    | some (.array n e), some x, some i => (P.info? e).map fun k => .ia (some n) k.size x i
    | some (.slice e), some x, some i => (P.info? e).map fun k => .ia none k.size x i
    | _, _, _ => none
  | .index t x i => match P.underlying t, compX x, compX i with
    | some (.array n e), some x, some i => match P.info? e, shapeOf P e with
      | some k, some m => some (.ix n k.size m x i)
      | _, _ => none
    | _, _, _ => none
  | .extract x j => (compX x).map fun x => .ext x j
  | .call c => match c.callee with
    | .value (.func f) => match P.funcs[f]? with
      | some fn => if fn.body.isSome ∧ (fn.name == "runtime.NumGoroutine") = false then (compXs c.args.toList).map (I.call f) else none
      | none => none
    | .value (.tmp t) => (compXs c.args.toList).map (I.callv (.t t))
    | .builtin .len => match c.args.toList, c.argTypes.toList with
      | [x], [t] => match P.underlying t with
        | some (.slice _) => (compX x).map I.len
        | _ => none
      | _, _ => none
    | .builtin .append => match c.args.toList, c.argTypes.toList with
      | [x, y], [t, u] => match P.underlying t, P.underlying u with
        | some (.slice e), some (.slice _) => match P.info? e, zeroOf P e, compX x, compX y with
          | some i, some _, some x, some y => if i.bytes = 0 then none else some (.app i.size i.bytes x y)
          | _, _, _, _ => none
        | _, _ => none
      | _, _ => none
    | .builtin .copy => match c.args.toList, c.argTypes.toList with
      | [x, y], [t, _] => match P.underlying t with
        | some (.slice e) => match P.info? e, compX x, compX y with
          | some i, some x, some y => some (.cpy i.size x y)
          | _, _, _ => none
        | _ => none
      | _, _ => none
    | .builtin .min => match c.args.toList with
      | [x, y] => match compX x, compX y with
        | some x, some y => some (.mx false x y)
        | _, _ => none
      | _ => none
    | .builtin .max => match c.args.toList with
      | [x, y] => match compX x, compX y with
        | some x, some y => some (.mx true x y)
        | _, _ => none
      | _ => none
    | _ => none
  | _ => none

def compG (P : Program) (ops : Array Oper) (o : Oper) : Option GI :=
  match compI P o with
  | some i => match o.guard with
    | none => some ⟨o.dst, i, none⟩
    | some (j, want) => match ops[j]? with
      | some oj => match oj.dst with
        | some d => some ⟨o.dst, i, some (d, want)⟩
        | none => none
      | none => none
  | none => none

def compGs (P : Program) (ops : Array Oper) : List Oper → Option (List GI)
  | [] => some []
  | o :: os => match compG P ops o, compGs P ops os with
    | some g, some l => some (g :: l)
    | _, _ => none

/-- Instructions that write nothing, make nothing, and call nothing. -/
def I.still : I → Bool
  | .mv _ | .pick .. | .build .. | .ld .. | .nil _ | .bin .. | .eqb .. | .eqa .. | .eqn .. | .un .. | .conv .. | .mkf .. | .slc .. | .fa .. | .fld .. | .ia .. | .ix .. | .ext .. | .len _ | .mx .. => true
  | _ => false
def I.quiet : I → Bool
  | .call .. => true
  | i => i.still

/-- How many instructions at the head only look. -/
def headLen : List GI → Nat
  | [] => 0
  | x :: xs => if x.op.still then headLen xs + 1 else 0

/-- Instructions that only make a block. -/
def I.alloc : I → Bool
  | .new _ | .bsl .. => true
  | _ => false
def I.calls : I → Bool
  | .call .. | .callv .. => true
  | _ => false

def prefixB (listed : Array Bool) (n k : Nat) : Bool := (List.range n).all fun i => listed.getD i false == decide (i < k)

/-- A way to take a region's operations. -/
def takeTks (ops : Array Oper) (l : List GI) : Nat → Array Bool → Option (List Tk)
  | 0, _ => some []
  | f + 1, listed =>
    match Region.ready .any ops listed with
    | [] => some []
    | rd => match rd.find? (fun k => match l[k]? with | some g => g.op.still && Region.free .any ops listed k | none => false) with
      | some k => match takeTks ops l f (listed.setIfInBounds k true) with
        | some r => some (.q k :: r)
        | none => none
      | none => match rd with
        | [k] => match l[k]?, takeTks ops l f (listed.setIfInBounds k true) with
          | some g, some r =>
            if g.op.alloc && g.g.isNone then some (.e k :: r)
            else if prefixB listed ops.size k && barB .any ops k then some (.b k :: r)
            else if g.op.calls then some (.q k :: r) else none
          | _, _ => none
        | _ => none

/-- The instructions in that order. -/
def tkCode (l : List GI) : List Tk → Option (List (Bool × GI))
  | [] => some []
  | .q k :: r => match l[k]?, tkCode l r with
    | some g, some m => if g.op.still || g.op.calls then some ((true, g) :: m) else none
    | _, _ => none
  | .e k :: r => match l[k]?, tkCode l r with
    | some g, some m => if g.op.alloc && g.g.isNone then some ((false, g) :: m) else none
    | _, _ => none
  | .b k :: r => match l[k]?, tkCode l r with
    | some g, some m => some ((false, g) :: m)
    | _, _ => none

def drmOf (ops : Array Oper) (l : List GI) : Option (List (Bool × GI)) :=
  if Region.noSelect ops = true then
    match takeTks ops l ops.size (Array.replicate ops.size false) with
    | some tks => if (barB .any ops (nextB ops.size tks) && okTk .any ops (nextB ops.size tks) tks (Array.replicate ops.size false) && decide (tks.length = ops.size)) = true then tkCode l tks else none
    | none => none
  else none

/-- A region whose order is drawn. -/
def compDr (ops : Array Oper) (l : List GI) : Option DC :=
  if l.all (fun x => x.op.still) = true ∧ Region.lexB .any ops = true then some (.drq l)
  else if Region.lexTailB .any ops (headLen l) = true then some (.drt (headLen l) l)
  else match drmOf ops l with
    | some s => some (.drm s)
    | none => if l.all (fun x => x.op.quiet) = true ∧ Region.lexB .any ops = true then some (.drq l) else none

def compC (P : Program) : Code → Option DC
  | .skip => some .skip
  | .region _ ops false => (compGs P ops ops.toList).map DC.reg
  | .region _ ops true => match compGs P ops ops.toList with
    | some l => compDr ops l
    | none => none
  | .seq a b => match compC P a, compC P b with
    | some a, some b => some (.seq a b)
    | _, _ => none
  | .cond c a b => match compX c, compC P a, compC P b with
    | some c, some a, some b => some (.cond c a b)
    | _, _, _ => none
  | .block id c => (compC P c).map (DC.block id)
  | .loop c => (compC P c).map DC.loop
  | .exit id => some (.exit id)
  | .ret => some .ret
  | _ => none

def compR (P : Program) : List ResultVar → Option (List RV)
  | [] => some []
  | .tmp t :: rs => (compR P rs).map (RV.t t :: ·)
  | .cell a t :: rs => match shapeOf P t, compR P rs with
    | some n, some l => some (.c a n :: l)
    | _, _ => none

def compF (P : Program) (F : Func) : Option DF :=
  match F.body with
  | some c => match compC P c, compR P F.results.toList with
    | some d, some r => some ⟨F.ntmps, d, r⟩
    | _, _ => none
  | none => none

end Go.D
