/- A part of the proof of the claim that the last text of this folder states. -/
import Derived.OrdersHeld
import Derived.ChangeKeysEq
import Derived.Laws.StructEq
import Derived.Test.YtebgbhgehnpahaaGreatDoorS03
namespace Go.E
set_option linter.all false
structure Lay where
  g : Option (Nat × Pth)
def ofS : Value → Option S
  | .bool b => some (.b b)
  | .int k n => if n < 18446744073709551616 then some (.i k n) else none
  | .pointer none => some .np
  | .slice none 0 0 => some .ns
  | .nilFunc => some .nf
  | .map none => some .nm
  | .string s => some (.st (s.data.toList.map UInt8.toNat))
  | _ => none
def ofSs : List Value → Option (List S)
  | [] => some []
  | v :: vs => match ofS v, ofSs vs with
    | some s, some l => some (s :: l)
    | _, _ => none
def ofV : Value → Option V
  | .agg cs => (ofSs cs.toList).map V.agg
  | v => (ofS v).map V.s
section
variable (Y : Lay) (P : Program) (N : Nat)
def compX : Operand → Option O
  | .tmp t => some (.t (Pth.of t))
  | .const v => (ofV v).map O.k
  | .func f => some (.k (.s (.fn (Pth.of f) [])))
  | .global g => match Y.g with
    | some (g', p) => if g = g' then some (.k (.s (.p p 0))) else none
    | none => none
def compXs : List Operand → Option (List O)
  | [] => some []
  | x :: xs => match compX Y x, compXs xs with
    | some y, some l => some (y :: l)
    | _, _ => none
def zeroOf (t : TypeId) : Option (List S) :=
  match P.info? t with
  | some i => match i.zero with
    | some z => match ofSs z.cells.toList with
      | some l => if l.length = i.size then some l else none
      | none => none
    | none => none
  | none => none
def shapeOf (t : TypeId) : Option (Option Nat) :=
  match P.info? t, P.underlying t with
  | some i, some (.struct _) => some (some i.size)
  | some i, some (.array _ _) => some (some i.size)
  | some _, some _ => some none
  | _, _ => none
def flatFs (g : TypeId → Option (List Bool)) : List Field → Nat → Option (List Bool)
  | [], _ => some []
  | f :: fs, n => if f.name ≠ "_" ∧ f.offset = n then (match g f.type with
    | some m => match flatFs g fs (n + m.length) with
      | some l => some (m ++ l)
      | none => none
    | none => none) else none
def rep (m : List Bool) : Nat → List Bool
  | 0 => []
  | n + 1 => m ++ rep m n
def flat : Nat → TypeId → Option (List Bool)
  | 0, _ => none
  | d + 1, t => match P.info? t, P.underlying t with
    | some i, some (.int _) => if i.size = 1 then some [true] else none
    | some i, some .bool => if i.size = 1 then some [false] else none
    | some i, some (.struct fs) =>
      if P.stoodInHeld t then none else
      match flatFs (flat d) fs.toList 0 with
      | some l => if i.size = l.length then some l else none
      | none => none
    | some i, some (.array n e) => match flat d e with
      | some m => if i.size = (rep m n).length then some (rep m n) else none
      | none => none
    | _, _ => none
def partsOf (place : Nat → Option (Nat × Nat)) : List (Nat × Operand) → Option (List (Nat × Nat × O))
  | [] => some []
  | (i, x) :: rest => match place i, compX Y x, partsOf place rest with
    | some (off, size), some y, some l => some ((off, size, y) :: l)
    | _, _, _ => none
def fieldPlaces (fs : List Field) (i : Nat) : Option (Nat × Nat) :=
  match fs[i]? with
  | some f => (P.info? f.type).map fun t => (f.offset, t.size)
  | none => none
def allSized (fs : List Field) : Bool := fs.all fun f => (P.info? f.type).isSome
def nilK : Operand → Option Nat
  | .const (.pointer none) => some 0
  | .const (.slice none 0 0) => some 1
  | .const (.map none) => some 2
  | .const .nilFunc => some 3
  | _ => none
def compB : Option Operand → Option (Option O)
  | none => some none
  | some y => (compX Y y).map some
def zeroV (t : TypeId) : Option V :=
  match P.info? t with
  | some i => match i.zero with
    | some z => ofV z
    | none => none
  | none => none
def keyKs (t : TypeId) : Option (List Bool) := match P.underlying t with
  | some (.int _) => some []
  | some .string => some [true]
  | some (.struct _) | some (.array _ _) => match flat P 20 t with
    | some l => if P.eqGuardType P.depth t || Nat.ble l.length 1 then none else some l
    | none => none
  | _ => none
def compE (q : Bool) (t : TypeId) (y : Operand) (x' y' : O) : Option J :=
  match P.underlying t with
  | some (.struct _) | some (.array _ _) => match flat P 20 t with
    | some n => if P.eqGuardType P.depth t then none else some (.eqa q n x' y')
    | none => none
  | some (.pointer _) => if nilK y = some 0 then some (.eqn 0 q x') else none
  | some (.slice _) => if nilK y = some 1 then some (.eqn 1 q x') else none
  | some (.map _ _) => if nilK y = some 2 then some (.eqn 2 q x') else none
  | some (.func _ _ _) => if nilK y = some 3 then some (.eqn 3 q x') else none
  | some .bool => some (.eqb q x' y')
  | some (.int _) => some (.bin (if q then .neq else .eql) x' y')
  | _ => none
def compI (o : Oper) : Option J :=
  match o.op with
  | .move x | .assign x => (compX Y x).map J.mv
  | .pick c a b => match compX Y c, compX Y a, compX Y b with
    | some c, some a, some b => some (.pick c a b)
    | _, _, _ => none
  | .alloc t => (zeroOf P t).map J.new
  | .box _ x => (compX Y x).map J.box
  | .build t parts => match zeroOf P t, P.underlying t with
    | some z, some (.struct fs) => if allSized P fs.toList then (partsOf Y (fieldPlaces P fs.toList) parts.toList).map (J.build z) else none
    | some z, some (.array _ e) => match P.info? e with
      | some i => (partsOf Y (fun j => some (j * i.size, i.size)) parts.toList).map (J.build z)
      | none => none
    | _, _ => none
  | .buildSlice t n parts => match P.underlying t with
    | some (.slice e) => match P.info? e, zeroOf P e with
      | some i, some z => if n * i.size ≤ 2 ^ 24 ∧ i.size ≠ 0 then (partsOf Y (fun j => some (j * i.size, i.size)) parts.toList).map (J.bsl n (zerosL z n)) else none
      | _, _ => none
    | _ => none
  | .load t a => match compX Y a, shapeOf P t with
    | some a, some none => some (.ld a)
    | some a, some (some n) => some (.ldn a n)
    | _, _ => none
  | .store t a x => match compX Y a, compX Y x, P.info? t with
    | some a, some x, some i => some (.st a x i.size)
    | _, _, _ => none
  | .nilCheck x => (compX Y x).map J.nil
  | .binOp op t x y _ => match compX Y x, compX Y y with
    | some x', some y' =>
      match op with
      | .eql => compE P false t y x' y'
      | .neq => compE P true t y x' y'
      | _ => some (.bin op x' y')
    | _, _ => none
  | .unOp op _ x => (compX Y x).map (J.un op)
  | .convert src dst x => match P.underlying src, P.underlying dst, compX Y x with
    | some _, some (.int k), some x => some (.conv k x)
    | _, _, _ => none
  | .makeFunc (.func f) first caps => match first.toList, caps.toList with
    | [], l => (compXs Y l).map (J.mkf (Pth.of f))
    | [x], [] => (compX Y x).map (J.mkm (Pth.of f))
    | _, _ => none
  | .makeSlice t n c => match P.underlying t, compX Y n, compX Y c with
    | some (.slice e), some n, some c => match P.info? e, zeroOf P e with
      | some i, some z => if i.size = 0 then none else some (.mks i.size i.bytes z n c)
      | _, _ => none
    | _, _, _ => none
  | .slice t x lo hi mx => if mx.isSome ∧ hi.isNone then none else match compX Y x, compB Y lo, compB Y hi, compB Y mx with
      | some x, some lo, some hi, some mx => match P.underlying t with
        | some (.slice e) => (P.info? e).map fun i => .slc none i.size x lo hi mx
        | some (.array n e) => if n < G then (P.info? e).map fun i => .slc (some n) i.size x lo hi mx else none
        | _ => none
      | _, _, _, _ => none
  | .fieldAddr s x f => match P.underlying s, compX Y x with
    | some (.struct fs), some x => match fs[f]? with
      | some f => match P.info? f.type with
        | some i => if i.size = 0 then none else some (.fa x f.offset)
        | none => none
      | none => none
    | _, _ => none
  | .field s x f => match P.underlying s, compX Y x with
    | some (.struct fs), some x => match fs[f]? with
      | some f => (shapeOf P f.type).map fun n => .fld x f.offset n
      | none => none
    | _, _ => none
  | .indexAddr t x i => match P.underlying t, compX Y x, compX Y i with
    | some (.array n e), some x, some i => (P.info? e).map fun k => .ia (some n) k.size x i
    | some (.slice e), some x, some i => (P.info? e).map fun k => .ia none k.size x i
    | _, _, _ => none
  | .index t x i => match P.underlying t, compX Y x, compX Y i with
    | some (.array n e), some x, some i => match P.info? e, shapeOf P e with
      | some k, some m => some (.ix n k.size m x i)
      | _, _ => none
    | some .string, some x, some i => some (.ixs x i)
    | _, _, _ => none
  | .extract x j => (compX Y x).map fun x => .ext x j
  | .call c => match c.callee with
    | .value (.func f) => match P.funcs[f]? with
      | some fn => if fn.body.isSome ∧ (fn.name == "runtime.NumGoroutine") = false then (compXs Y c.args.toList).map (J.call (Pth.of f)) else none
      | none => none
    | .value (.tmp t) => (compXs Y c.args.toList).map (J.callv (.t (Pth.of t)))
    | .builtin .len => match c.args.toList, c.argTypes.toList with
      | [x], [t] => match P.underlying t with
        | some (.slice _) => (compX Y x).map J.len
        | some (.map _ _) => (compX Y x).map J.lenm
        | _ => none
      | _, _ => none
    | .builtin .append => match c.args.toList, c.argTypes.toList with
      | [x, y], [t, u] => match P.underlying t, P.underlying u with
        | some (.slice e), some (.slice _) => match P.info? e, zeroOf P e, compX Y x, compX Y y with
          | some i, some _, some x, some y => if i.bytes = 0 then none else some (.app i.size i.bytes x y)
          | _, _, _, _ => none
        | _, _ => none
      | _, _ => none
    | .builtin .copy => match c.args.toList, c.argTypes.toList with
      | [x, y], [t, _] => match P.underlying t with
        | some (.slice e) => match P.info? e, compX Y x, compX Y y with
          | some i, some x, some y => some (.cpy i.size x y)
          | _, _, _ => none
        | _ => none
      | _, _ => none
    | .builtin .min => match c.args.toList with
      | [x, y] => match compX Y x, compX Y y with
        | some x, some y => some (.mx false x y)
        | _, _ => none
      | _ => none
    | .builtin .max => match c.args.toList with
      | [x, y] => match compX Y x, compX Y y with
        | some x, some y => some (.mx true x y)
        | _, _ => none
      | _ => none
    | _ => none
  | .sliceToArrayPointer t x => match P.underlying t with
    | some (.array n _) => (compX Y x).map (J.arr n)
    | _ => none
  | .makeMap t r => match r with
    | none => some .mkmap
    | some _ => none
  | .lookup t m key ok => match P.underlying t, compX Y m, compX Y key with
    | some (.map kt et), some m, some key => match zeroV P et with
      | some z => (keyKs P kt).map fun ks => .lk ok ks z m key
      | none => none
    | _, _, _ => none
  | .insert t m key v | .mapUpdate t m key v => match P.underlying t, compX Y m, compX Y key, compX Y v with
    | some (.map kt _), some m, some key, some v => (keyKs P kt).map fun ks => .up ks m key v
    | _, _, _, _ => none
  | .range t x => match P.underlying t, compX Y x with
    | some (.map _ _), some x => some (.rng x)
    | _, _ => none
  | .next x false => (compX Y x).map J.nxt
  | .entry x => (compX Y x).map J.ent
  | .defer c => match c.callee with
    | .value (.func f) => (compXs Y c.args.toList).map (J.dfr (Pth.of f))
    | _ => none
  | _ => none
where zerosL (z : List S) : Nat → List S
  | 0 => []
  | n + 1 => z ++ zerosL z n
def compG (ops : Array Oper) (o : Oper) : Option GJ :=
  match compI Y P o with
  | some i => if (match o.dst with | some d => decide (d < N) | none => true) then (match o.guard with
    | none => some (.g (o.dst.map Pth.of) i)
    | some (j, want) => match ops[j]? with
      | some oj => match oj.dst with
        | some d => some (.c (o.dst.map Pth.of) i (Pth.of d) want)
        | none => none
      | none => none) else none
  | none => none
def compGs (ops : Array Oper) : List Oper → Option (List GJ)
  | [] => some []
  | o :: os => match compG Y P N ops o, compGs ops os with
    | some g, some l => some (g :: l)
    | _, _ => none
def J.kind : J → Nat
  | .mv _ | .pick .. | .build .. | .nil _ | .bin .. | .eqb .. | .eqa .. | .eqn .. | .un .. | .conv .. | .mkf .. | .mkm .. | .slc .. | .fa .. | .fld .. | .ia .. | .ix .. | .ixs .. | .ext .. | .len _ | .mx .. | .arr .. => 0
  | .ld _ | .ldn .. | .lk .. | .lenm _ | .ent _ => 1
  | .new _ | .box _ | .bsl .. | .mks .. | .mkmap => 2
  | _ => 3
def GJ.kind : GJ → Nat
  | .g _ op => op.kind
  | .c _ op _ _ => if op.kind = 2 then 3 else op.kind
def takeX (ops : Array Oper) (l : List GJ) : Nat → Array Bool → List Nat
  | 0, _ => []
  | f + 1, listed =>
    let rd := Region.ready .any ops listed
    let kd (n : Nat) (k : Nat) : Bool := match l[k]? with
      | some g => g.kind = n
      | none => false
    match rd.find? fun k => kd 0 k || kd 1 k with
    | some k => k :: takeX ops l f (listed.setIfInBounds k true)
    | none => match rd.find? (kd 3) with
      | some k => k :: takeX ops l f (listed.setIfInBounds k true)
      | none => match rd with
        | k :: _ => k :: takeX ops l f (listed.setIfInBounds k true)
        | [] => []
def predsOf (ops : Array Oper) (i : Nat) : List Nat := match ops[i]? with
  | some o => (o.after.toList.filter fun e => Region.binds .any e).map (·.on)
  | none => []
def addAll : List Nat → List Nat → List Nat
  | [], s => s
  | x :: xs, s => addAll xs (if s.contains x then s else x :: s)
def tblGet (i : Nat) : List (Nat × List Nat) → List Nat
  | [] => []
  | (k, s) :: l => if k = i then s else tblGet i l
def ancOf (ops : Array Oper) (tbl : List (Nat × List Nat)) (i : Nat) : List Nat := if 20 < (predsOf ops i).length then predsOf ops i else (predsOf ops i).foldl (fun s k => addAll (k :: tblGet k tbl) s) []
def kindOf (gl : List GJ) (k : Nat) : Nat := match gl[k]? with
  | some g => g.kind
  | none => 3
def J.plain : J → Bool
  | .nxt _ | .dfr .. => false
  | _ => true
def GJ.plain : GJ → Bool
  | .g _ op => op.plain
  | .c _ op _ _ => op.plain
def segAl (gl : List GJ) (done : List Nat) : Bool := done.foldl (fun b k => if kindOf gl k = 3 then false else if kindOf gl k = 2 then true else b) false
def isIn (o : Oper) : Bool := match o.op with
  | .insert .. => true
  | _ => false
def insB (ops : Array Oper) (i : Nat) : Bool := match ops[i]? with
  | some o => isIn o
  | none => false
def okX (ops : Array Oper) (gl : List GJ) (done : List Nat) (i : Nat) (o : Oper) (g : GJ) (s : List Nat) : Bool :=
  g.plain && !done.contains i && ((predsOf ops i).all fun p => done.contains p || (insB ops p && (predsOf ops p).all done.contains)) &&
  ((List.range ops.size).all fun k => match (ops[k]?).bind (·.dst) with
    | some d => (!(o.looksAt ops).contains d || (s.contains k && done.contains k) || (g.kind != 1 && !done.contains k)) && (k == i || o.dst != some d)
    | none => true) &&
  (match o.dst with
    | some d => done.all fun k => s.contains k || !(match ops[k]? with
      | some o' => (o'.looksAt ops).contains d
      | none => false)
    | none => true) &&
  (done.all fun k => s.contains k || !((g.kind == 3 && (kindOf gl k == 3 || kindOf gl k == 2)) || (g.kind == 1 && kindOf gl k == 3))) &&
  !(g.kind == 1 && segAl gl done)
def chkOf (gl : List GJ) (s : List Nat) : List Nat → List GJ
  | [] => []
  | k :: ks => match gl[k]? with
    | some g => if g.kind = 1 ∧ s.contains k = false then g :: chkOf gl s ks else chkOf gl s ks
    | none => chkOf gl s ks
def mkX (ops : Array Oper) (gl : List GJ) : List (Nat × List Nat) → List Nat → Option (List XJ)
  | _, [] => some []
  | tbl, i :: rest => match ops[i]?, gl[i]? with
    | some o, some g => if okX ops gl (tbl.map (·.1)) i o g (ancOf ops tbl i) then
        match mkX ops gl (tbl ++ [(i, ancOf ops tbl i)]) rest with
        | some l => some ((if g.kind = 3 then .hv g (chkOf gl (ancOf ops tbl i) (tbl.map (·.1))) else .lt g) :: l)
        | none => none
      else none
    | _, _ => none
def dlOf (ops : Array Oper) : List (Nat × Nat) := (List.range ops.size).filterMap fun k => ((ops[k]?).bind (·.dst)).map fun d => (k, d)
def infOf (ops : Array Oper) (gl : List GJ) (k : Nat) : Nat × List Nat × Nat := (k, (match ops[k]? with
  | some o => o.looksAt ops
  | none => []), kindOf gl k)
def okX2 (ops : Array Oper) (gl : List GJ) (dl : List (Nat × Nat)) (done : List Nat) (inf : List (Nat × List Nat × Nat)) (i : Nat) (o : Oper) (g : GJ) (s lo : List Nat) : Bool :=
  g.plain && !done.contains i && ((predsOf ops i).all fun p => done.contains p || (insB ops p && (predsOf ops p).all done.contains)) &&
  (dl.all fun x => (!lo.contains x.2 || (s.contains x.1 && done.contains x.1) || (g.kind != 1 && !done.contains x.1)) && (x.1 == i || o.dst != some x.2)) &&
  (match o.dst with
    | some d => inf.all fun x => !x.2.1.contains d || s.contains x.1
    | none => true) &&
  (inf.all fun x => !((g.kind == 3 && (x.2.2 == 3 || x.2.2 == 2)) || (g.kind == 1 && x.2.2 == 3)) || s.contains x.1) &&
  !(g.kind == 1 && segAl gl done)
def mkX2 (ops : Array Oper) (gl : List GJ) (dl : List (Nat × Nat)) : List (Nat × List Nat) → List (Nat × List Nat × Nat) → List Nat → Option (List XJ)
  | _, _, [] => some []
  | tbl, inf, i :: rest => match ops[i]?, gl[i]? with
    | some o, some g => if okX2 ops gl dl (tbl.map (·.1)) inf i o g (ancOf ops tbl i) (o.looksAt ops) then
        match mkX2 ops gl dl (tbl ++ [(i, ancOf ops tbl i)]) (inf ++ [infOf ops gl i]) rest with
        | some l => some ((if g.kind = 3 then .hv g (chkOf gl (ancOf ops tbl i) (tbl.map (·.1))) else .lt g) :: l)
        | none => none
      else none
    | _, _ => none
def compDr0 (ops : Array Oper) (gl : List GJ) : Option DJ :=
  let ord := takeX ops gl ops.size (Array.replicate ops.size false)
  if (List.range ops.size).all ord.contains then (mkX ops gl [] ord).map DJ.drw else none
def isMk (o : Oper) : Bool := match o.op with
  | .makeMap _ none => true
  | _ => false
def okIn (ops : Array Oper) (gl : List GJ) (im dm i : Nat) : Bool := match ops[i]?, gl[i]? with
  | some o, some (.g none (.up _ (.t pm) _ _)) => o.dst == none && o.guard == none && pm == Pth.of dm && (predsOf ops i).contains im &&
    (o.op.operands.toList.all fun x => match x with
      | .tmp p => (predsOf ops i).any fun k => (ops[k]?).bind (·.dst) == some p
      | _ => true) && (predsOf ops i).all fun p => decide (p < ops.size) && !insB ops p
  | _, _ => false
def mkAt (ops : Array Oper) (gl : List GJ) (im dm : Nat) : Bool := match ops[im]?, gl[im]? with
  | some o, some (.g (some d) .mkmap) => isMk o && o.dst == some dm && d == Pth.of dm
  | _, _ => false
def ordM (ops : Array Oper) (gl : List GJ) (im : Nat) : List Nat :=
  let l := (List.range ops.size).filter fun i => !insB ops i && i != im && !(predsOf ops i).contains im
  (l.filter fun i => kindOf gl i == 1 && (predsOf ops i).isEmpty) ++ (l.filter fun i => !(kindOf gl i == 1 && (predsOf ops i).isEmpty)) ++ im :: ((List.range ops.size).filter fun i => !insB ops i && i != im && (predsOf ops i).contains im)
def compDm (ops : Array Oper) (gl : List GJ) (im dm : Nat) : Option DJ :=
  let il := (List.range ops.size).filter (insB ops)
  let ord := ordM ops gl im
  if mkAt ops gl im dm && (List.range ops.size).all (fun i => insB ops i || ord.contains i) && ord.all (fun i => !insB ops i) && il.all (okIn ops gl im dm) && ((ord.dropWhile (· != im)).drop 1).all (fun i => kindOf gl i == 0) then
    (mkX2 ops gl (dlOf ops) [] [] ord).map fun l => DJ.drm l (.t (Pth.of dm)) (il.filterMap fun i => gl[i]?)
  else none
def compDr (ops : Array Oper) (gl : List GJ) : Option DJ := match ops.toList.findIdx? isIn with
  | none => compDr0 ops gl
  | some _ => match ops.toList.findIdx? isMk with
    | some im => match (ops[im]?).bind (·.dst) with
      | some dm => compDm ops gl im dm
      | none => none
    | none => none
def GJ.nd : GJ → Bool
  | .g _ (.dfr ..) => false
  | .c _ (.dfr ..) _ _ => false
  | _ => true
def XJ.nd : XJ → Bool
  | .lt g => g.nd
  | .hv g _ => g.nd
def DJ.smp : DJ → Bool
  | .reg l => l.all GJ.nd
  | .drw l => l.all XJ.nd
  | .drm _ _ _ => false
  | .seq a b => a.smp && b.smp
  | .cond _ a b => a.smp && b.smp
  | .block id c => decide (id < 1000000) && c.smp
  | .loop c => c.smp
  | .exit id => decide (id < 1000000)
  | .rf .. => false
  | _ => true
def labelsOf : Code → List Nat
  | .seq a b => labelsOf a ++ labelsOf b
  | .label l => [l]
  | _ => []
def goId (l : Nat) : Nat := 1000000 + 2 * l
def outId (l : Nat) : Nat := 1000001 + 2 * l
mutual
def compC : Code → Option DJ
  | .skip => some .skip
  | .region _ ops false => (compGs Y P N ops ops.toList).map DJ.reg
  | .region _ ops true => match compGs Y P N ops ops.toList with
    | some l => compDr ops l
    | none => none
  | .seq a b => match compC a, compC b with
    | some a, some b => some (.seq a b)
    | _, _ => none
  | .cond c a b => match compX Y c, compC a, compC b with
    | some c, some a, some b => some (.cond c a b)
    | _, _, _ => none
  | .block id c => if id < 1000000 then (compC c).map (DJ.block id) else none
  | .loop c => (compC c).map DJ.loop
  | .exit id => if id < 1000000 then some (.exit id) else none
  | .ret => some .ret
  | .label _ => some .skip
  | .goto l => some (.exit (goId l))
  | .scope c => match labelsOf c with
    | [] => compC c
    | [l] => match compC c, compT l c with
      | some d, some r => some (.block (outId l) (.seq (.block (goId l) (.seq d (.exit (outId l)))) (.loop (.block (goId l) (.seq r (.exit (outId l)))))))
      | _, _ => none
    | _ => none
  | .rangeFunc g ps a b => match compX Y g, compC a, compC b with
    | some g, some a, some b => if a.smp && b.smp && (ps.toList.all fun p => decide (p < N)) then some (.rf g (ps.toList.map Pth.of) a b) else none
    | _, _, _ => none
  | _ => none
def compT (l : Nat) : Code → Option DJ
  | .seq a b => match findLabel a l with
    | some _ => match compT l a, compC b with
      | some r, some d => some (.seq r d)
      | _, _ => none
    | none => compT l b
  | .label l' => if l' = l then some .skip else none
  | _ => none
end
def compR : List ResultVar → Option (List RV)
  | [] => some []
  | .tmp t :: rs => (compR rs).map (RV.t (Pth.of t) :: ·)
  | .cell a t :: rs => match shapeOf P t, compR rs with
    | some n, some l => some (.c (Pth.of a) n :: l)
    | _, _ => none
def hasN : DJ → Bool
  | .reg l => l.any fun g => match g with
    | .g _ (.nxt _) => true
    | .c _ (.nxt _) _ _ => true
    | _ => false
  | .seq a b | .cond _ a b | .rf _ _ a b => hasN a || hasN b
  | .block _ c | .loop c => hasN c
  | _ => false
def compF (F : Func) : Option FJ :=
  match F.body with
  | some c => match compC Y P F.ntmps c, compR P F.results.toList with
    | some d, some r => some ⟨hasN d, d, r⟩
    | _, _ => none
  | none => none
end
theorem vl_lt {e : Env} {n : Int} (h : n < 18446744073709551616) : vl e n = n := by unfold vl; rw [if_neg (by omega)]
theorem kn_lt {n : Int} (h : n < 18446744073709551616) : kn n = true := by
  cases n with
  | ofNat m =>
    show Nat.blt m unkN = true
    rw [Nat.blt_eq]
    have h : (m : Int) < 18446744073709551616 := h
    unfold unkN; omega
  | negSucc m => rfl
theorem reB_lt {n : Int} (h : reB n = true) : n < 18446744073709551616 := by
  cases n with
  | ofNat m =>
    have h : m < 18446744073709551616 := by have : Nat.blt m 18446744073709551616 = true := h; simpa [Nat.blt_eq] using this
    show (m : Int) < 18446744073709551616
    omega
  | negSucc m => rw [Int.negSucc_eq]; omega
theorem reB_kn {n : Int} (h : reB n = true) : kn n = true := kn_lt (reB_lt h)
theorem ofS_tr {v : Value} {s : S} (h : ofS v = some s) (e : Env) : s.tr e = v ∧ (∀ f, s.rf f = true) ∧ nU s = true := by
  unfold ofS at h
  split at h
  · cases h; exact ⟨rfl, fun _ => rfl, rfl⟩
  · rename_i k n
    split at h
    · rename_i hk
      cases h
      exact ⟨by simp only [S.tr, vl_lt hk], fun _ => kn_lt hk, kn_lt hk⟩
    · cases h
  · cases h; exact ⟨rfl, fun _ => rfl, rfl⟩
  · cases h; exact ⟨rfl, fun _ => rfl, rfl⟩
  · cases h; exact ⟨rfl, fun _ => rfl, rfl⟩
  · cases h; exact ⟨rfl, fun _ => rfl, rfl⟩
  · rename_i s
    cases h
    refine ⟨?_, fun _ => rfl, rfl⟩
    simp only [S.tr, List.map_map]
    congr 1
    obtain ⟨⟨l⟩⟩ := s
    congr 2
    show List.map (UInt8.ofNat ∘ UInt8.toNat) l = l
    rw [show (UInt8.ofNat ∘ UInt8.toNat) = id from funext fun x => by simp]
    exact List.map_id l
  · cases h
theorem ofSs_tr : ∀ {vs : List Value} {l : List S}, ofSs vs = some l → ∀ e : Env, l.map (S.tr e) = vs ∧ ∀ f, l.all (S.rf f) = true
  | [], l, h, e => by simp only [ofSs, Option.some.injEq] at h; subst h; exact ⟨rfl, fun _ => rfl⟩
  | v :: vs, l, h, e => by
    simp only [ofSs] at h
    cases h1 : ofS v with
    | none => simp [h1] at h
    | some s =>
      cases h2 : ofSs vs with
      | none => simp [h1, h2] at h
      | some l' =>
        simp only [h1, h2, Option.some.injEq] at h
        subst h
        have a := ofS_tr h1 e
        have b := ofSs_tr h2 e
        exact ⟨by simp [a.1, b.1], fun f => by simp [a.2.1 f, b.2 f]⟩
theorem V.rf_s {f : Pth → Bool} {s : S} (h : s.rf f = true) : (V.s s).rf f = true := by
  cases s <;> first | rfl | exact h
theorem V.rf_s' {f : Pth → Bool} {s : S} (h : (V.s s).rf f = true) (hn : nU s = true) : s.rf f = true := by
  cases s <;> first | exact hn | exact h
theorem ofV_tr {v : Value} {x : V} (h : ofV v = some x) (e : Env) : x.tr e = v ∧ ∀ f, x.rf f = true := by
  have hs : (ofS v).map V.s = some x → x.tr e = v ∧ ∀ f, x.rf f = true := fun h => by
    cases h1 : ofS v with
    | none => simp [h1] at h
    | some s =>
      simp only [h1, Option.map_some, Option.some.injEq] at h
      subst h
      have a := ofS_tr h1 e
      exact ⟨a.1, fun f => V.rf_s (a.2.1 f)⟩
  unfold ofV at h
  split at h
  · rename_i cs
    cases h1 : ofSs cs.toList with
    | none => simp [h1] at h
    | some l =>
      simp only [h1, Option.map_some, Option.some.injEq] at h
      subst h
      have a := ofSs_tr h1 e
      exact ⟨by simp only [V.tr, trs, a.1], a.2⟩
  · exact hs h
def Gl (Y : Lay) (e : Env) (f : Pth → Bool) : Prop := ∀ g p, Y.g = some (g, p) → f p = true ∧ e.σ p = (g, 0)
def Isu (e : Env) (v : V) (x : Value) : Prop := v = .u ∨ Is e v x
structure OT (Y : Lay) (e : Env) (t : T) (f : Pth → Bool) (a : Act) (Z : Operand → Prop) : Prop where
  tm : ∀ i : Nat, Z (.tmp i) → (gt vu (Pth.of i) t).rf f = true ∧ Isu e (gt vu (Pth.of i) t) (a.eval (.tmp i))
  gl : Gl Y e f
theorem Is.mk {e : Env} (v : V) : Is e v (v.tr e) := .inl rfl
noncomputable def V.nU : V → Bool
  | .s x => E.nU x
  | _ => true
theorem Is.eq {e : Env} {v : V} {x : Value} (h : Is e v x) (hn : v.nU = true) : x = v.tr e := by
  rcases h with h | ⟨h, _⟩ | ⟨h, _⟩
  · exact h
  · subst h; exact absurd hn (by simp only [V.nU, E.nU]; decide)
  · subst h; exact absurd hn (by simp only [V.nU, E.nU]; decide)
section
variable {Y : Lay} {e : Env} {t : T} {f : Pth → Bool} {a : Act} {Z : Operand → Prop}
theorem ev_tm (t : T) (i : Nat) : ev t (.t (Pth.of i)) = gt vu (Pth.of i) t := gtV_eq _ _
theorem ev_is (hT : OT Y e t f a Z) {x : Operand} {y : O} (hS : Z x) (hx : compX Y x = some y) : (ev t y).rf f = true ∧ Isu e (ev t y) (a.eval x) := by
  cases x with
  | tmp i =>
    simp only [compX, Option.some.injEq] at hx
    subst hx
    rw [ev_tm]
    exact hT.tm i hS
  | const v =>
    simp only [compX] at hx
    cases h1 : ofV v with
    | none => simp [h1] at hx
    | some w =>
      simp only [h1, Option.map_some, Option.some.injEq] at hx
      subst hx
      have q := ofV_tr h1 e
      exact ⟨q.2 f, .inr (.inl q.1.symm)⟩
  | global g =>
    simp only [compX] at hx
    split at hx
    · rename_i g' p hg
      split at hx
      · rename_i hgg
        cases hx
        subst hgg
        obtain ⟨h1, h2⟩ := hT.gl g p hg
        refine ⟨h1, .inr (.inl ?_)⟩
        show Value.pointer (some ⟨g, 0, none⟩) = .pointer (some (adr e p 0))
        simp only [adr, h2, Nat.zero_add]
      · cases hx
    · cases hx
  | func g => simp only [compX, Option.some.injEq] at hx; subst hx; exact ⟨rfl, .inr (.inl (by show Value.func (.func g) #[] #[] = .func (.func (Pth.of g).n) #[] #[]; rw [Pth.of_n]))⟩
theorem ev_eq (hT : OT Y e t f a Z) {x : Operand} {y : O} (hS : Z x) (hx : compX Y x = some y) {v : V} (hv : ev t y = v) (hu : v ≠ .u) (hn : v.nU = true) : a.eval x = v.tr e ∧ v.rf f = true := by
  obtain ⟨h1, h2⟩ := ev_is hT hS hx
  rw [hv] at h1 h2
  rcases h2 with h2 | h2
  · exact absurd h2 hu
  · exact ⟨h2.eq hn, h1⟩
theorem ev_i (hT : OT Y e t f a Z) {x : Operand} {y : O} (hS : Z x) (hx : compX Y x = some y) {k : IntKind} {n : Int} (hv : ev t y = .s (.i k n)) (hn : reB n = true) : a.eval x = .int k n := by
  have := (ev_eq hT hS hx hv (by simp) (by exact reB_kn hn)).1
  rw [this]; simp only [V.tr, S.tr, reB_vl e hn]
end
def Pure (Y : Lay) (P : Program) (o : Oper) (op : J) : Prop :=
  ∀ cal t h k r, exJ op cal t h k = some r → ∃ v, (∀ cal h k, exJ op cal t h k = k v h) ∧
    ∀ e f a, OT Y e t f a (· ∈ o.op.operands) → ∃ x, Isu e v x ∧ v.rf f = true ∧ ∀ w, (execOp a.eval o).run P w = .ok (.value x) w
def Looks (Y : Lay) (P : Program) (o : Oper) (op : J) : Prop :=
  ∀ cal t h k r, exJ op cal t h k = some r → ∃ v, (∀ cal k, exJ op cal t h k = k v h) ∧
    ∀ e a w, OT Y e t (Pth.ok h.n.n) a (· ∈ o.op.operands) → Rel e h w → ∃ x, Isu e v x ∧ v.ok h.n.n = true ∧ (execOp a.eval o).run P w = .ok (.value x) w
theorem Pure.looks {Y : Lay} {P : Program} {o : Oper} {op : J} (H : Pure Y P o op) : Looks Y P o op := fun cal t h k r hr => by
  obtain ⟨v, h1, h2⟩ := H cal t h k r hr
  refine ⟨v, fun cal k => h1 cal h k, fun e a w hT _ => ?_⟩
  obtain ⟨x, h3, h4, h5⟩ := h2 e _ a hT
  exact ⟨x, h3, h4, h5 w⟩
theorem onB_some {β : Type} {q : Bool} {x y : Option β} {r : β} (h : onB q x y = some r) : (q = true ∧ x = some r) ∨ (q = false ∧ y = some r) := by
  cases q with
  | true => exact .inl ⟨rfl, h⟩
  | false => exact .inr ⟨rfl, h⟩
theorem onB_t {β : Type} {q : Bool} {x : Option β} {r : β} (h : onB q x none = some r) : q = true ∧ x = some r := by
  rcases onB_some h with h | ⟨_, h⟩
  · exact h
  · cases h
theorem and_t {a b : Bool} (h : and a b = true) : a = true ∧ b = true := by simpa using h
theorem Isu.mk {e : Env} (v : V) : Isu e v (v.tr e) := .inr (.inl rfl)
section
variable {β : Type}
theorem e_asI (k : IntKind) (n : Int) (c : IntKind → Int → Option β) : asI (.s (.i k n)) c = c k n := rfl
theorem e_asB (q : Bool) (c : Bool → Option β) : asB (.s (.b q)) c = c q := rfl
theorem e_asP (r : Pth) (o : Nat) (c : Pth → Nat → Option β) : asP (.s (.p r o)) c = c r o := rfl
theorem e_asS (s : S) (c : S → Option β) : asS (.s s) c = c s := rfl
theorem e_asA (l : List S) (c : List S → Option β) : asA (.agg l) c = c l := rfl
theorem e_t (x y : Option β) : onB true x y = x := rfl
theorem e_f (x y : Option β) : onB false x y = y := rfl
theorem e_o {α : Type} (a : α) (c : α → Option β) : onO (some a) c = c a := rfl
end
theorem nat_lt {a b : Nat} (h : Nat.blt a b = true) : a < b := by simpa [Nat.blt_eq] using h
theorem nat_le {a b : Nat} (h : Nat.ble a b = true) : a ≤ b := by simpa [Nat.ble_eq] using h
theorem nat_eq {a b : Nat} (h : Nat.beq a b = true) : a = b := by simpa using h
theorem kEq_t {a b : IntKind} (h : kEq a b = true) : a = b := by simpa [kEq_iff] using h
section
variable {Y : Lay} {P : Program} {o : Oper}
theorem pure_mv {x : Operand} {y : O} (ho : o.op = .move x ∨ o.op = .assign x) (hx : compX Y x = some y) : Pure Y P o (.mv y) := by
  intro cal t h k r _
  refine ⟨ev t y, fun _ _ _ => rfl, fun e f a hT => ?_⟩
  obtain ⟨h1, h2⟩ := ev_is hT (x := x) (by rcases ho with ho | ho <;> simp [ho, Op.operands]) hx
  exact ⟨_, h2, h1, fun w => by rcases ho with ho | ho <;> simp [execOp, ho]⟩
theorem pure_pick {c x y : Operand} {c' x' y' : O} (ho : o.op = .pick c x y) (hc : compX Y c = some c') (hx : compX Y x = some x') (hy : compX Y y = some y') : Pure Y P o (.pick c' x' y') := by
  intro cal t h k r hr
  obtain ⟨q, hq, _⟩ := asB_some (show asB (ev t c') _ = some r from hr)
  refine ⟨ev t (if q then x' else y'), fun cal h k => ?_, fun e f a hT => ?_⟩
  · show asB (ev t c') _ = _
    rw [hq]; cases q <;> rfl
  obtain ⟨c1, _⟩ := ev_eq hT (x := c) (by simp [ho, Op.operands]) hc hq (by simp) rfl
  obtain ⟨x1, x2⟩ := ev_is hT (x := x) (by simp [ho, Op.operands]) hx
  obtain ⟨y1, y2⟩ := ev_is hT (x := y) (by simp [ho, Op.operands]) hy
  cases q
  · exact ⟨_, y2, y1, fun w => by simp [execOp, ho, c1, V.tr, S.tr, asBool]⟩
  · exact ⟨_, x2, x1, fun w => by simp [execOp, ho, c1, V.tr, S.tr, asBool]⟩
theorem pure_nil {x : Operand} {y : O} (ho : o.op = .nilCheck x) (hx : compX Y x = some y) : Pure Y P o (.nil y) := by
  intro cal t h k r hr
  obtain ⟨s, hs, hr⟩ := asS_some (show asS (ev t y) _ = some r from hr)
  refine ⟨.s s, fun cal h k => ?_, fun e f a hT => ?_⟩
  · show asS (ev t y) _ = _
    rw [hs]; cases s <;> first | rfl | (cases hr; done)
  · cases s <;> first | (cases hr; done) | skip
    all_goals
      obtain ⟨h1, h2⟩ := ev_eq hT (x := x) (by simp [ho, Op.operands]) hx hs (by simp) rfl
      exact ⟨_, .mk _, h2, fun w => by simp [execOp, ho, h1, V.tr, S.tr]⟩
theorem wrap_lt (k : IntKind) (n : Int) : k.wrap n < 18446744073709551616 := by
  cases k <;> simp [IntKind.wrap, IntKind.bits, IntKind.signed] <;> omega
theorem bits_lt (op : BinOp) (k : IntKind) (a b : Int) : bits op k a b < 18446744073709551616 := by
  unfold bits
  cases op <;> first | exact wrap_lt _ _ | (simp; done)
theorem pure_un {u : UnOp} {T : TypeId} {x : Operand} {y : O} (ho : o.op = .unOp u T x) (hx : compX Y x = some y) : Pure Y P o (.un u y) := by
  intro cal t h k r hr
  cases u with
  | neg =>
    obtain ⟨kd, n, hn, hr⟩ := asI_some (show asI (ev t y) _ = some r from hr)
    obtain ⟨hb, hr⟩ := onB_t hr
    refine ⟨.s (.i kd (kd.wrap (Int.sub 0 n))), fun cal h k => ?_, fun e f a hT => ⟨_, .mk _, rfl, fun w => ?_⟩⟩
    · show asI (ev t y) _ = _
      simp only [hn, e_asI, hb, e_t, rI_eq]
    · have h1 := ev_i hT (x := x) (by simp [ho, Op.operands]) hx hn hb
      have e2 : Int.sub 0 n = -n := by show 0 - n = -n; omega
      rw [e2]
      simp [execOp, ho, h1, V.tr, S.tr, Op.unary, Op.intArith, vl_lt (wrap_lt kd _)]
  | xor =>
    obtain ⟨kd, n, hn, hr⟩ := asI_some (show asI (ev t y) _ = some r from hr)
    obtain ⟨hb, hr⟩ := onB_t hr
    refine ⟨.s (.i kd (bits .xor kd (if kd.signed then -1 else kd.max) n)), fun cal h k => ?_, fun e f a hT => ⟨_, .mk _, rfl, fun w => ?_⟩⟩
    · show asI (ev t y) _ = _
      simp only [hn, e_asI, hb, e_t, rI'_eq]
    · have h1 := ev_i hT (x := x) (by simp [ho, Op.operands]) hx hn hb
      simp [execOp, ho, h1, V.tr, S.tr, Op.unary, intBits_xor, vl_lt (bits_lt _ _ _ _)]
  | not =>
    obtain ⟨q, hq, hr⟩ := asB_some (show asB (ev t y) _ = some r from hr)
    refine ⟨.s (.b (!q)), fun cal h k => ?_, fun e f a hT => ⟨_, .mk _, rfl, fun w => ?_⟩⟩
    · show asB (ev t y) _ = _
      simp only [hq, e_asB, rQ_eq]
    · obtain ⟨h1, _⟩ := ev_eq hT (x := x) (by simp [ho, Op.operands]) hx hq (by simp) rfl
      simp [execOp, ho, h1, V.tr, S.tr, Op.unary]
  | plus => cases hr
theorem cvY_ok {kd : IntKind} {n : Int} (h : cvY kd n = true) (e : Env) : kn n = true ∧ kd.wrap (vl e n) = vl e n := by
  cases n with
  | negSucc _ => cases h
  | ofNat m =>
    obtain ⟨h1, h2⟩ := and_t' h
    obtain ⟨r1, r2⟩ := sy_rg e.ρ m
    refine ⟨?_, ?_⟩
    · have := (isY_out h1).2.1
      show Nat.blt m unkN = true
      rw [Nat.blt_eq]; unfold symN at this; unfold unkN; omega
    · rw [vl_Y h1]; exact (lim_lt (lim_mono h2 r2)).2.2
theorem pure_conv {src dst : TypeId} {d : TypeDesc} {kd : IntKind} {x : Operand} {y : O} (ho : o.op = .convert src dst x) (hs : P.underlying src = some d) (hd : P.underlying dst = some (.int kd))
    (hx : compX Y x = some y) : Pure Y P o (.conv kd y) := by
  intro cal t h k r hr
  obtain ⟨k', n, hn, hr⟩ := asI_some (show asI (ev t y) _ = some r from hr)
  rcases onB_or hr with ⟨hb, hr⟩ | ⟨hb, hr⟩
  · refine ⟨.s (.i kd (kd.wrap n)), fun cal h k => ?_, fun e f a hT => ⟨_, .mk _, rfl, fun w => ?_⟩⟩
    · show asI (ev t y) _ = _
      simp only [hn, e_asI, hb, e_t, rI_eq]
    · have h1 := ev_i hT (x := x) (by simp [ho, Op.operands]) hx hn hb
      have hr := run_convert_int w src dst k' n (P := P) (by simp [hs]) (by simp [Program.intKind, hd])
      simp only [Program.intKind, hd] at hr
      simp [execOp, ho, h1, V.tr, S.tr, hr, vl_lt (wrap_lt kd _)]
  · obtain ⟨hc, hr⟩ := onB_t' hr
    refine ⟨.s (.i kd n), fun cal h k => ?_, fun e f a hT => ?_⟩
    · show asI (ev t y) _ = _
      simp only [hn, e_asI, hb, hc, e_t, e_f]
    · obtain ⟨c1, c2⟩ := cvY_ok hc e
      have h1 := (ev_eq hT (x := x) (by simp [ho, Op.operands]) hx hn (by simp) (by exact c1)).1
      refine ⟨_, .mk _, rfl, fun w => ?_⟩
      have hr := run_convert_int w src dst k' (vl e n) (P := P) (by simp [hs]) (by simp [Program.intKind, hd])
      simp only [Program.intKind, hd] at hr
      simp only [V.tr, S.tr] at h1
      simp [execOp, ho, h1, V.tr, S.tr, hr, c2]
theorem nthC_eq : ∀ (l : List C) (n : Nat), nthC l n = l[n]?
  | [], _ => rfl
  | x :: _, 0 => rfl
  | _ :: l, n + 1 => by show nthC l n = _; rw [nthC_eq l n]; rfl
theorem pure_ext {x : Operand} {y : O} {j : Nat} (ho : o.op = .extract x j) (hx : compX Y x = some y) : Pure Y P o (.ext y j) := by
  intro cal t h k r hr
  cases hv : ev t y with
  | tup cs =>
    have hx2 : ∀ cal h k, exJ (.ext y j) cal t h k = onO (nthC cs j) fun c => k c.toV h := fun cal h k => by
      show x_ext y j cal t h k = _
      unfold x_ext
      rw [hv]
    rw [hx2] at hr
    obtain ⟨c, hc, hr⟩ := onO_some hr
    refine ⟨c.toV, fun cal h k => ?_, fun e f a hT => ?_⟩
    · rw [hx2, hc]; rfl
    · obtain ⟨h1, h2⟩ := ev_eq hT (x := x) (by simp [ho, Op.operands]) hx hv (by simp) rfl
      rw [nthC_eq] at hc
      simp only [V.rf, List.all_eq_true] at h2
      have h3 := h2 c (List.mem_of_getElem? hc)
      refine ⟨c.toV.tr e, .mk _, by cases c <;> first | exact V.rf_s h3 | exact h3, fun w => ?_⟩
      have : c.toV.tr e = c.tr e := by cases c <;> rfl
      rw [this]
      simp [execOp, ho, h1, V.tr, Instr.extract, hc]
  | _ =>
    have hr : x_ext y j cal t h k = some r := hr
    unfold x_ext at hr
    rw [hv] at hr; cases hr
theorem adr_add (e : Env) (r : Pth) (o n : Nat) : (adr e r o).add n = adr e r (o + n) := by
  unfold Addr.add adr; split
  · rename_i e; simp [e]
  · simp [Nat.add_assoc]
theorem pure_fa {T : TypeId} {x : Operand} {y : O} {j : Nat} {fs : Array Field} {f : Field} {i : TypeInfo} (ho : o.op = .fieldAddr T x j) (hu : P.underlying T = some (.struct fs)) (hf : fs[j]? = some f)
    (hi : P.info? f.type = some i) (hs : i.size ≠ 0) (hx : compX Y x = some y) : Pure Y P o (.fa y f.offset) := by
  intro cal t h k r hr
  obtain ⟨q, n, hq, hr⟩ := asP_some (show asP (ev t y) _ = some r from hr)
  refine ⟨.s (.p q (n + f.offset)), fun cal h k => ?_, fun e g a hT => ?_⟩
  · show asP (ev t y) _ = _
    simp only [hq, e_asP, fN_eq]; rfl
  obtain ⟨h1, h2⟩ := ev_eq hT (x := x) (by simp [ho, Op.operands]) hx hq (by simp) rfl
  exact ⟨_, .mk _, h2, fun w => by simp [execOp, ho, h1, V.tr, S.tr, Instr.fieldAt, run_underlying hu, hf, Instr.sureAddr, fieldPlace, sizeOf, typeInfo, hi, hs, adr_add]⟩
end
end Go.E
