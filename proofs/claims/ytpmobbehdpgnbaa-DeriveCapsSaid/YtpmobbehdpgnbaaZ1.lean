/- The small code, and what must hold ahead of it (weakest preconditions over the abstract state). -/
import Derived.Test.YtpmobbehdpgnbaaZ0
/- The small code, and what must hold ahead of it (weakest preconditions over the abstract state). -/
namespace Go.D
set_option linter.all false
variable [Tabs]

inductive Opd where
  | t (i : Nat)
  | k (v : V)

inductive I where
  | mv (x : Opd)
  | pick (c a b : Opd)
  | new (zero : List S)
  | box (x : Opd)
  | build (zero : List S) (parts : List (Nat × Nat × Opd))
  | bsl (len : Nat) (zero : List S) (parts : List (Nat × Nat × Opd))
  | ld (a : Opd) (n : Option Nat)
  | st (a x : Opd) (n : Nat)
  | nil (x : Opd)
  | bin (op : BinOp) (x y : Opd)
  | eqb (neg : Bool) (x y : Opd)
  | eqa (neg : Bool) (ks : List Bool) (x y : Opd)
  | eqn (isSl neg : Bool) (x : Opd)
  | un (op : UnOp) (x : Opd)
  | conv (k : IntKind) (x : Opd)
  | mkf (f : FuncId) (caps : List Opd)
  | mks (esize bytes : Nat) (zero : List S) (len cap : Opd)
  | slc (arr : Option Nat) (esize : Nat) (x : Opd) (lo hi : Option Opd)
  | fa (x : Opd) (off : Nat)
  | fld (x : Opd) (off : Nat) (n : Option Nat)
  | ia (arr : Option Nat) (esize : Nat) (x i : Opd)
  | ix (len esize : Nat) (n : Option Nat) (x i : Opd)
  | ext (x : Opd) (j : Nat)
  | call (f : FuncId) (args : List Opd)
  | callv (f : Opd) (args : List Opd)
  | len (x : Opd)
  | app (esize bytes : Nat) (x y : Opd)
  | cpy (esize : Nat) (x y : Opd)
  | mx (isMax : Bool) (x y : Opd)

structure GI where
  dst : Option Nat
  op : I
  g : Option (Nat × Bool)

def Gm (d a : Nat) : GI := ⟨some d, .mv (.t a), none⟩
def Gg (d : Nat) (x : I) : GI := ⟨some d, x, none⟩
def Ki (n : Int) : Opd := .k (.s (.i .i64 n))
def Zi (n : Nat) : List S := List.replicate n (.i .i64 0)
theorem Gm_eq (d a : Nat) : Gm d a = ⟨some d, .mv (.t a), none⟩ := (rfl)
theorem Gg_eq (d : Nat) (x : I) : Gg d x = ⟨some d, x, none⟩ := (rfl)
theorem Ki_eq (n : Int) : Ki n = .k (.s (.i .i64 n)) := (rfl)
theorem Zi_eq (n : Nat) : Zi n = List.replicate n (.i .i64 0) := (rfl)
inductive XC where
  | done
  | tk (q : Bool) (g : GI) (r : XC)
  | both (a b : XC)

inductive DC where
  | skip
  | reg (l : List GI)
  | drq (l : List GI)
  | drt (n : Nat) (l : List GI)
  | drm (l : List (Bool × GI))
  | drx (x : XC)
  | seq (a b : DC)
  | cond (x : Opd) (a b : DC)
  | block (id : Nat) (c : DC)
  | loop (c : DC)
  | exit (id : Nat)
  | ret

/-! ### values -/
def ev (t : List V) : Opd → V
  | .t i => t.getD i (.tup [])
  | .k v => v

def putD (t : List V) (d : Option Nat) (v : V) : List V :=
  match d with
  | some d => t.set d v
  | none => t

def V.cells : V → List S
  | .s x => [x]
  | .agg xs => xs
  | .tup _ => []

def V.plain : V → Bool
  | .s .u => false
  | .s _ => true
  | .agg xs => known xs
  | .tup _ => false

def C.known : C → Bool
  | .s .u => false
  | .s _ => true
  | .agg xs => D.known xs

def V.known : V → Bool
  | .s .u => false
  | .s _ => true
  | .agg xs => D.known xs
  | .tup cs => cs.all C.known

def C.v : C → V
  | .s x => .s x
  | .agg xs => .agg xs

def sub (xs : List S) (o n : Nat) : List S := (xs.drop o).take n

def ob (p K : Prop) : Prop := p ∧ K
def bcase : Bool → (Bool → Prop) → Prop
  | true, f => f true
  | false, f => f false
theorem bcase_intro {b : Bool} {f : Bool → Prop} (h1 : b = true → f true) (h2 : b = false → f false) : bcase b f := by
  cases b
  · exact h2 rfl
  · exact h1 rfl

def eq1 : S → S → Bool
  | .i _ a, .i _ b => a == b
  | .b a, .b b => a == b
  | _, _ => false
def cmp1 : Bool → S → S → Bool
  | true, .i j _, .i k _ => decide (j = k)
  | false, .b _, .b _ => true
  | _, _, _ => false
def eqS : List S → List S → Bool
  | [], [] => true
  | x :: xs, y :: ys => eq1 x y && eqS xs ys
  | _, _ => false
def cmpS : List Bool → List S → List S → Bool
  | [], [], [] => true
  | k :: ks, x :: xs, y :: ys => cmp1 k x y && cmpS ks xs ys
  | _, _, _ => false

def bin1 (op : BinOp) (x y : S) (K : S → Prop) : Prop :=
  match x, y with
  | .i k a, .i k' b =>
    match op with
    | .shl => ob (0 ≤ b) (K (.i k (k.wrap (a * 2 ^ min b.toNat k.bits))))
    | .shr => ob (0 ≤ b) (K (.i k (a / 2 ^ min b.toNat k.bits)))
    | .add => ob (k = k') (K (.i k (k.wrap (a + b))))
    | .sub => ob (k = k') (K (.i k (k.wrap (a - b))))
    | .mul => ob (k = k') (K (.i k (k.wrap (a * b))))
    | .quo => ob (k = k' ∧ b ≠ 0) (K (.i k (k.wrap (a.tdiv b))))
    | .rem => ob (k = k' ∧ b ≠ 0) (K (.i k (a.tmod b)))
    | .and => ob (k = k') (K (.i k (bits .and k a b)))
    | .or => ob (k = k') (K (.i k (bits .or k a b)))
    | .xor => ob (k = k') (K (.i k (bits .xor k a b)))
    | .andNot => ob (k = k') (K (.i k (bits .andNot k a b)))
    | .eql => ob (k = k') (K (.b (a == b)))
    | .neq => ob (k = k') (K (.b (a != b)))
    | .lss => ob (k = k') (K (.b (decide (a < b))))
    | .leq => ob (k = k') (K (.b (decide (a ≤ b))))
    | .gtr => ob (k = k') (K (.b (decide (a > b))))
    | .geq => ob (k = k') (K (.b (decide (a ≥ b))))
  | _, _ => False

def isNil (isSl : Bool) : S → Option Bool
  | .p _ _ => if isSl then none else some false
  | .np => if isSl then none else some true
  | .sl _ _ _ _ => if isSl then some false else none
  | .ns => if isSl then some true else none
  | _ => none

def un1 (op : UnOp) (x : S) (K : S → Prop) : Prop :=
  match op, x with
  | .not, .b a => K (.b (!a))
  | .neg, .i k a => K (.i k (k.wrap (0 - a)))
  | .xor, .i k a => K (.i k (bits .xor k (if k.signed then -1 else k.max) a))
  | _, _ => False

def fillP (t : List V) : List (Nat × Nat × Opd) → List S → Option (List S)
  | [], z => some z
  | (off, size, x) :: rest, z =>
    let v := ev t x
    if v.plain && v.cells.length == size && decide (off + size ≤ z.length) then fillP t rest (put z off v.cells) else none

def capsOf (t : List V) : List Opd → Option (List (R × Nat))
  | [] => some []
  | x :: xs => match ev t x, capsOf t xs with
    | .s (.p r o), some l => some ((r, o) :: l)
    | _, _ => none

/-! ### lending: the function's own blocks as shared ones of its callee -/
def R.lend (n : Nat) : R → R
  | .g k => .g k
  | .l k => .g (n + k)
def R.unlend (n : Nat) : R → R
  | .g k => if k < n then .g k else .l (k - n)
  | .l k => .l k
def S.ren (ρ : R → R) : S → S
  | .p r o => .p (ρ r) o
  | .sl r o a c => .sl (ρ r) o a c
  | .fn f cs => .fn f (cs.map fun x => (ρ x.1, x.2))
  | x => x
def C.ren (ρ : R → R) : C → C
  | .s x => .s (x.ren ρ)
  | .agg xs => .agg (xs.map (S.ren ρ))
def V.ren (ρ : R → R) : V → V
  | .s x => .s (x.ren ρ)
  | .agg xs => .agg (xs.map (S.ren ρ))
  | .tup cs => .tup (cs.map (C.ren ρ))
def Blk.ren (ρ : R → R) (B : Blk) : Blk := { B with cells := B.cells.map (S.ren ρ) }

def R.noL : R → Bool
  | .g _ => true
  | .l _ => false
def S.noL : S → Bool
  | .p r _ => r.noL
  | .sl r _ _ _ => r.noL
  | .fn _ cs => cs.all fun x => x.1.noL
  | _ => true
def C.noL : C → Bool
  | .s x => x.noL
  | .agg xs => xs.all S.noL
def V.noL : V → Bool
  | .s x => x.noL
  | .agg xs => xs.all S.noL
  | .tup cs => cs.all C.noL

def clean (n : Nat) (h : List Blk) : Bool := h.all fun B => vals n 0 B.cells

abbrev FSpec := List V → List Blk → (V → List Blk → Prop) → Prop

def callK (Γ : FuncId → FSpec) (f : FuncId) (args : List V) (ls h : List Blk) (K : V → List Blk → List Blk → Prop) : Prop :=
  ob (args.all V.known = true)
  (bcase (args.all V.noL) fun q =>
    if q then Γ f args h fun v h' => K v ls h'
    else Γ f (args.map (V.ren (R.lend h.length))) (h ++ ls.map (Blk.ren (R.lend h.length))) fun v h' =>
      ob (h.length + ls.length ≤ h'.length ∧ clean h.length (h'.take h.length) = true)
        (K (v.ren (R.unlend h.length)) ((h'.drop h.length).map (Blk.ren (R.unlend h.length))) (h'.take h.length)))

/-! ### what names a block of the function's own -/
def R.names (k : Nat) : R → Bool
  | .g _ => false
  | .l j => decide (j = k)
def S.names (k : Nat) : S → Bool
  | .p r _ => r.names k
  | .sl r _ _ _ => r.names k
  | .fn _ cs => cs.any fun x => x.1.names k
  | _ => false
def C.names (k : Nat) : C → Bool
  | .s x => x.names k
  | .agg xs => xs.any (S.names k)
def V.names (k : Nat) : V → Bool
  | .s x => x.names k
  | .agg xs => xs.any (S.names k)
  | .tup cs => cs.any (C.names k)
def V.kill (k : Nat) (v : V) : V := if v.names k then .s .u else v
def unnamed (k : Nat) (ls : List Blk) : Bool := ls.all fun B => B.cells.all fun s => !s.names k

def shows (ls h : List Blk) (esize : Nat) : S → Option (Nat × List S)
  | .sl r o n _ => match blk h ls r with
    | some B => if B.st = .dead ∨ B.cells.length < o + n * esize then (if n = 0 then some (0, []) else none) else some (n, sub B.cells o (n * esize))
    | none => none
  | .ns => some (0, [])
  | .es _ _ => some (0, [])
  | _ => none

def zeros (z : List S) : Nat → List S
  | 0 => []
  | n + 1 => z ++ zeros z n

def bnd (d : Int) (t : List V) : Option Opd → Option Int
  | none => some d
  | some x => match ev t x with
    | .s (.i _ n) => some n
    | _ => none

def iwp (Γ : FuncId → FSpec) (op : I) (t : List V) (ls h : List Blk) (K : List V → V → List Blk → List Blk → Prop) : Prop :=
  match op with
  | .mv x => K t (ev t x) ls h
  | .pick c a b => match ev t c with
    | .s (.b q) => bcase q fun q => K t (ev t (if q then a else b)) ls h
    | _ => False
  | .new z => K t (.s (.p (.l ls.length) 0)) (ls ++ [⟨.rw, z, z.length⟩]) h
  | .box x => let v := ev t x
    ob (v.plain = true) (K t (.s (.p (.l ls.length) 0)) (ls ++ [⟨.rw, v.cells, v.cells.length⟩]) h)
  | .build z parts => match fillP t parts z with
    | some z' => K t (.agg z') ls h
    | none => False
  | .bsl n z parts => match fillP t parts z with
    | some z' => K t (.s (.sl (.l ls.length) 0 n n)) (ls ++ [⟨.rw, z', z'.length⟩]) h
    | none => False
  | .ld a n => match ev t a with
    | .s (.p r o) => match blk h ls r with
      | some B => match n with
        | none => match B.cells[o]? with
          | some s => ob (B.st ≠ .dead ∧ V.known (.s s) = true) (K t (.s s) ls h)
          | none => False
        | some n => ob (B.st ≠ .dead ∧ o + n ≤ B.cells.length ∧ known (sub B.cells o n) = true) (K t (.agg (sub B.cells o n)) ls h)
      | none => False
    | _ => False
  | .st a x n => match ev t a with
    | .s (.p r o) => match blk h ls r with
      | some B => let v := ev t x
        ob (B.st = .rw ∧ v.plain = true ∧ v.cells.length = n ∧ o + n ≤ B.cells.length ∧ v.cells.all (r.takes h.length ls.length) = true)
          (K t (.tup []) (setL ls r { B with cells := put B.cells o v.cells }) (setH h r { B with cells := put B.cells o v.cells }))
      | none => False
    | _ => False
  | .nil x => match ev t x with
    | .s (.p r o) => K t (.s (.p r o)) ls h
    | .s (.fn f cs) => K t (.s (.fn f cs)) ls h
    | _ => False
  | .bin op x y => match ev t x, ev t y with
    | .s a, .s b => bin1 op a b fun s => K t (.s s) ls h
    | _, _ => False
  | .eqb neg x y => match ev t x, ev t y with
    | .s (.b a), .s (.b b) => K t (.s (.b (if neg then !(a == b) else a == b))) ls h
    | _, _ => False
  | .eqa neg ks x y => match ev t x, ev t y with
    | .agg xs, .agg ys => ob (cmpS ks xs ys = true) (K t (.s (.b (if neg then !eqS xs ys else eqS xs ys))) ls h)
    | _, _ => False
  | .eqn isSl neg x => match ev t x with
    | .s a => match isNil isSl a with
      | some q => K t (.s (.b (if neg then !q else q))) ls h
      | none => False
    | _ => False
  | .un op x => match ev t x with
    | .s a => un1 op a fun s => K t (.s s) ls h
    | _ => False
  | .conv k x => match ev t x with
    | .s (.i _ n) => K t (.s (.i k (k.wrap n))) ls h
    | _ => False
  | .mkf f caps => match capsOf t caps with
    | some cs => K t (.s (.fn f cs)) ls h
    | none => False
  | .mks esize bytes z x y => match ev t x, ev t y with
    | .s (.i _ n), .s (.i _ c) => ob (0 ≤ n ∧ n ≤ c ∧ c ≤ 2 ^ 40 ∧ bytes * c ≤ 2 ^ 48 ∧ z.length = esize)
        (K t (.s (.sl (.l ls.length) 0 n.toNat c.toNat)) (ls ++ [⟨.rw, zeros z c.toNat, (zeros z c.toNat).length⟩]) h)
    | _, _ => False
  | .slc arr esize x lo hi =>
    let go (r : R) (o len cap : Nat) : Prop :=
      match bnd 0 t lo, bnd len t hi with
      | some l, some u => ob (0 ≤ l ∧ l ≤ u ∧ u ≤ cap)
          (K t (.s (.sl r (if cap = l.toNat then o else o + l.toNat * esize) (u.toNat - l.toNat) (cap - l.toNat))) ls h)
      | _, _ => False
    match arr, ev t x with
    | some n, .s (.p r o) => go r o n n
    | none, .s (.sl r o n c) => go r o n c
    | none, .s .ns => match bnd 0 t lo, bnd 0 t hi with
      | some l, some u => ob (l = 0 ∧ u = 0) (K t (.s .ns) ls h)
      | _, _ => False
    | _, _ => False
  | .fa x off => match ev t x with
    | .s (.p r o) => K t (.s (.p r (o + off))) ls h
    | _ => False
  | .fld x off n => match ev t x with
    | .agg xs => match n with
      | none => match xs[off]? with
        | some s => K t (.s s) ls h
        | none => False
      | some n => ob (off + n ≤ xs.length) (K t (.agg (sub xs off n)) ls h)
    | _ => False
  | .ia arr esize x i => match ev t i with
    | .s (.i _ i) => match arr, ev t x with
      | some n, .s (.p r o) => ob (0 ≤ i ∧ i < n) (K t (.s (.p r (o + i.toNat * esize))) ls h)
      | none, .s (.sl r o n _) => ob (0 ≤ i ∧ i < n) (K t (.s (.p r (o + i.toNat * esize))) ls h)
      | _, _ => False
    | _ => False
  | .ix len esize n x i => match ev t x, ev t i with
    | .agg xs, .s (.i _ i) => ob (0 ≤ i ∧ i < len)
      (match n with
      | none => match xs[i.toNat * esize]? with
        | some s => K t (.s s) ls h
        | none => False
      | some n => ob (i.toNat * esize + n ≤ xs.length) (K t (.agg (sub xs (i.toNat * esize) n)) ls h))
    | _, _ => False
  | .ext x j => match ev t x with
    | .tup cs => match cs[j]? with
      | some c => K t c.v ls h
      | none => False
    | _ => False
  | .call f args => callK Γ f (args.map (ev t)) ls h fun v ls' h' => K t v ls' h'
  | .callv f args => match ev t f with
    | .s (.fn g cs) => callK Γ g (args.map (ev t) ++ cs.map fun x => .s (.p x.1 x.2)) ls h fun v ls' h' => K t v ls' h'
    | _ => False
  | .len x => match ev t x with
    | .s (.sl _ _ n _) => K t (.s (.i .i64 n)) ls h
    | .s .ns => K t (.s (.i .i64 0)) ls h
    | .s (.es _ _) => K t (.s (.i .i64 0)) ls h
    | _ => False
  | .app esize bytes x y => match ev t x, ev t y with
    | .s b, .s y => match shows ls h esize y with
      | some (n, new) => ob (known new = true ∧ 0 < esize) (match b with
        | .ns => ob (n * bytes ≤ 2 ^ 47 ∧ 0 < n ∧ vals h.length ls.length new = true) (∀ c, n ≤ c → K t (.s (.sl (.l ls.length) 0 n c)) (ls ++ [⟨.rw, new, c * esize⟩]) h)
        | .sl (.l k) 0 len cap => match ls[k]? with
          | some B => ob (B.st = .rw ∧ B.cells.length = len * esize ∧ cap * esize ≤ B.room ∧ (len + n) * bytes ≤ 2 ^ 47 ∧ known B.cells = true ∧ unnamed k ls = true ∧
                new.all (fun s => !s.names k) = true ∧ vals h.length ls.length new = true)
              (∀ c, len + n ≤ c → K (t.map (V.kill k)) (.s (.sl (.l k) 0 (len + n) c)) (ls.set k ⟨.rw, B.cells ++ new, c * esize⟩) h)
          | none => False
        | _ => False)
      | none => False
    | _, _ => False
  | .cpy esize x y => match ev t x, ev t y with
    | .s x, .s y => match shows ls h esize y with
      | some (n, src) => match x with
        | .sl r o len _ => match blk h ls r with
          | some B => ob (B.st = .rw ∧ o + len * esize ≤ B.cells.length ∧ known src = true ∧ (sub src 0 (min n len * esize)).all (r.takes h.length ls.length) = true)
              (K t (.s (.i .i64 (min n len : Nat))) (setL ls r { B with cells := put B.cells o (sub src 0 (min n len * esize)) })
                (setH h r { B with cells := put B.cells o (sub src 0 (min n len * esize)) }))
          | none => False
        | .ns => ob (known src = true) (K t (.s (.i .i64 0)) ls h)
        | _ => False
      | none => False
    | _, _ => False
  | .mx isMax x y => match ev t x, ev t y with
    | .s (.i k a), .s (.i _ b) => K t (.s (.i k (if isMax then (if b > a then b else a) else (if b < a then b else a)))) ls h
    | _, _ => False

def gwp (Γ : FuncId → FSpec) (x : GI) (t : List V) (ls h : List Blk) (K : List V → List Blk → List Blk → Prop) : Prop :=
  match x.g with
  | none => iwp Γ x.op t ls h fun t v ls h => K (putD t x.dst v) ls h
  | some (j, want) => match t.getD j (.tup []) with
    | .s (.b q) => bcase q fun q =>
      if (q == want) = true then iwp Γ x.op (t.set j (.s (.b q))) ls h fun t v ls h => K (putD t x.dst v) ls h
      else K (putD (t.set j (.s (.b q))) x.dst (.tup [])) ls h
    | .tup [] => K (putD t x.dst (.tup [])) ls h
    | _ => False

def rwp (Γ : FuncId → FSpec) : List GI → List V → List Blk → List Blk → (List V → List Blk → List Blk → Prop) → Prop
  | [], t, ls, h, K => K t ls h
  | x :: rest, t, ls, h, K => gwp Γ x t ls h fun t ls h => rwp Γ rest t ls h K

def qwp (Γ : FuncId → FSpec) (op : I) (t : List V) (ls h : List Blk) (K : V → Prop) : Prop :=
  match op with
  | .call f args => ob ((args.map (ev t)).all V.known = true ∧ (args.map (ev t)).all V.noL = true) (∃ v : V, v.val 0 0 = true ∧ Γ f (args.map (ev t)) h (fun v' h' => v' = v ∧ h' = h) ∧ K v)
  | .callv f args => match ev t f with
    | .s (.fn g cs) => ob ((args.map (ev t) ++ cs.map fun x => V.s (.p x.1 x.2)).all V.known = true ∧ (args.map (ev t) ++ cs.map fun x => V.s (.p x.1 x.2)).all V.noL = true)
        (∃ v : V, v.val 0 0 = true ∧ Γ g (args.map (ev t) ++ cs.map fun x => V.s (.p x.1 x.2)) h (fun v' h' => v' = v ∧ h' = h) ∧ K v)
    | _ => False
  | op => iwp Γ op t ls h fun _ v _ _ => K v

def gqwp (Γ : FuncId → FSpec) (x : GI) (t : List V) (ls h : List Blk) (K : List V → Prop) : Prop :=
  match x.g with
  | none => qwp Γ x.op t ls h fun v => K (putD t x.dst v)
  | some (j, want) => match t.getD j (.tup []) with
    | .s (.b q) => bcase q fun q =>
      if (q == want) = true then qwp Γ x.op (t.set j (.s (.b q))) ls h fun v => K (putD (t.set j (.s (.b q))) x.dst v)
      else K (putD (t.set j (.s (.b q))) x.dst (.tup []))
    | .tup [] => K (putD t x.dst (.tup []))
    | _ => False

def rqwp (Γ : FuncId → FSpec) : List GI → List V → List Blk → List Blk → (List V → Prop) → Prop
  | [], t, _, _, K => K t
  | x :: rest, t, ls, h, K => gqwp Γ x t ls h fun t => rqwp Γ rest t ls h K

def mwp (Γ : FuncId → FSpec) : List (Bool × GI) → List V → List Blk → List Blk → (List V → List Blk → List Blk → Prop) → Prop
  | [], t, ls, h, K => K t ls h
  | (true, x) :: rest, t, ls, h, K => gqwp Γ x t ls h fun t => mwp Γ rest t ls h K
  | (false, x) :: rest, t, ls, h, K => gwp Γ x t ls h fun t ls h => mwp Γ rest t ls h K

def xwp (Γ : FuncId → FSpec) : XC → List V → List Blk → List Blk → (List V → List Blk → List Blk → Prop) → Prop
  | .done, t, ls, h, K => K t ls h
  | .tk true x r, t, ls, h, K => gqwp Γ x t ls h fun t => xwp Γ r t ls h K
  | .tk false x r, t, ls, h, K => gwp Γ x t ls h fun t ls h => xwp Γ r t ls h K
  | .both a b, t, ls, h, K => xwp Γ a t ls h K ∧ xwp Γ b t ls h K

structure St where
  t : List V
  ls : List Blk
  h : List Blk

inductive Ex where
  | nrm
  | ext (id : Nat)
  | ret

structure WkBy (n0 : Nat) (ρ : R → R) (s s' : St) : Prop where
  len : n0 ≤ s'.h.length
  old : ∀ k, k < n0 → ρ (.g k) = .g k
  new : ∀ k, n0 ≤ k → k < s'.h.length → (∃ j, n0 ≤ j ∧ ρ (.g k) = .g j) ∨ ∃ j B, ρ (.g k) = .l j ∧ s.ls[j]? = some B ∧ B.st = .rw
  inj : ∀ r r', r.val s'.h.length s'.ls.length = true → r'.val s'.h.length s'.ls.length = true → ρ r = ρ r' → r = r'
  blks : ∀ r B', blk s'.h s'.ls r = some B' → blk s.h s.ls (ρ r) = some (B'.ren ρ)
  gval : ∀ B, B ∈ s'.h → vals s'.h.length 0 B.cells = true
  lval : ∀ B, B ∈ s'.ls → vals s'.h.length s'.ls.length B.cells = true
  size : s'.t.length = s.t.length
  temps : ∀ (i : Nat) (v' : V), s'.t[i]? = some v' → v'.val s'.h.length s'.ls.length = true ∧ (v' = .s .u ∨ s.t[i]? = some (v'.ren ρ))

def R.below (m : Nat) : R → Bool
  | .g _ => true
  | .l k => decide (k < m)
def S.below (m : Nat) : S → Bool
  | .p r _ => r.below m
  | .sl r _ _ _ => r.below m
  | .fn _ cs => cs.all fun x => x.1.below m
  | _ => true
def C.below (m : Nat) : C → Bool
  | .s x => x.below m
  | .agg xs => xs.all (S.below m)
def V.below (m : Nat) : V → Bool
  | .s x => x.below m
  | .agg xs => xs.all (S.below m)
  | .tup cs => cs.all (C.below m)

def leT : List V → List V → Prop
  | [], [] => True
  | v' :: t', v :: t => (v' = .s .u ∨ v' = v) ∧ leT t' t
  | _, _ => False

inductive Wk (n0 : Nat) : St → St → Prop where
  | refl {s : St} : Wk n0 s s
  | by_ (ρ : R → R) {s s' : St} (h : WkBy n0 ρ s s') : Wk n0 s s'
  | cut {t t' : List V} {ls h : List Blk} (junk : List Blk) (ht : leT t' t) (hb : t'.all (V.below ls.length) = true) (hl : ls.all (fun B => B.cells.all (S.below ls.length)) = true) : Wk n0 ⟨t, ls ++ junk, h⟩ ⟨t', ls, h⟩
  | less {t t' : List V} {ls h : List Blk} (ht : leT t' t) : Wk n0 ⟨t, ls, h⟩ ⟨t', ls, h⟩
  | trans {s s1 s2 : St} (h : Wk n0 s s1) (h' : Wk n0 s1 s2) : Wk n0 s s2

def dwp (Γ : FuncId → FSpec) (n0 : Nat) : DC → St → (Ex → St → Prop) → Prop
  | .skip, s, K => K .nrm s
  | .reg l, s, K => rwp Γ l s.t s.ls s.h fun t ls h => K .nrm ⟨t, ls, h⟩
  | .drq l, s, K => rqwp Γ l s.t s.ls s.h fun t => K .nrm ⟨t, s.ls, s.h⟩
  | .drt _ l, s, K => rwp Γ l s.t s.ls s.h fun t ls h => K .nrm ⟨t, ls, h⟩
  | .drm l, s, K => mwp Γ l s.t s.ls s.h fun t ls h => K .nrm ⟨t, ls, h⟩
  | .drx x, s, K => xwp Γ x s.t s.ls s.h fun t ls h => K .nrm ⟨t, ls, h⟩
  | .seq a b, s, K => dwp Γ n0 a s fun e s => match e with
    | .nrm => ∃ s', Wk n0 s s' ∧ dwp Γ n0 b s' K
    | e => K e s
  | .cond x a b, s, K => match ev s.t x with
    | .s (.b q) => bcase q fun q => ∃ s', Wk n0 s s' ∧ if q = true then dwp Γ n0 a s' K else dwp Γ n0 b s' K
    | _ => False
  | .block id c, s, K => dwp Γ n0 c s fun e s => match e with
    | .ext j => if j = id then K .nrm s else K (.ext j) s
    | e => K e s
  | .loop c, s, K => ∀ X : St → Prop, (∀ s, (∃ s', Wk n0 s s' ∧ dwp Γ n0 c s' fun e s => match e with
    | .nrm => X s
    | e => K e s) → X s) → X s
  | .exit id, s, K => K (.ext id) s
  | .ret, s, K => K .ret s

inductive RV where
  | t (i : Nat)
  | c (a : Nat) (n : Option Nat)

def rval (s : St) : RV → Option C
  | .t i => match s.t.getD i (.tup []) with
    | .s x => some (.s x)
    | .agg xs => some (.agg xs)
    | .tup _ => none
  | .c a n => match s.t.getD a (.tup []) with
    | .s (.p r o) => match blk s.h s.ls r with
      | some B => if B.st = .dead then none else match n with
        | none => (B.cells[o]?).map C.s
        | some n => if o + n ≤ B.cells.length then some (.agg (sub B.cells o n)) else none
      | none => none
    | _ => none

def rvals (s : St) : List RV → Option (List C)
  | [] => some []
  | r :: rs => match rval s r, rvals s rs with
    | some c, some l => some (c :: l)
    | _, _ => none

def result : List C → V
  | [c] => c.v
  | l => .tup l

def R.prom (n : Nat) (keep : List Nat) : R → R
  | .g k => .g k
  | .l k => .g (n + keep.idxOf k)
def R.kept (keep : List Nat) : R → Bool
  | .g _ => true
  | .l k => keep.contains k
def S.kept (keep : List Nat) : S → Bool
  | .p r _ => r.kept keep
  | .sl r _ _ _ => r.kept keep
  | .fn _ cs => cs.all fun x => x.1.kept keep
  | _ => true
def C.kept (keep : List Nat) : C → Bool
  | .s x => x.kept keep
  | .agg xs => xs.all (S.kept keep)
def V.kept (keep : List Nat) : V → Bool
  | .s x => x.kept keep
  | .agg xs => xs.all (S.kept keep)
  | .tup cs => cs.all (C.kept keep)

def getAll (ls : List Blk) : List Nat → Option (List Blk)
  | [] => some []
  | k :: ks => match ls[k]?, getAll ls ks with
    | some B, some l => some (B :: l)
    | _, _ => none

def leave (v : V) (ls h : List Blk) (K : V → List Blk → Prop) : Prop :=
  ob (v.known = true)
  (bcase v.noL fun q =>
    if q then K v h
    else ∃ keep : List Nat, keep.Nodup ∧ v.kept keep = true ∧ match getAll ls keep with
      | some l => ob (l.all (fun B => decide (B.st = .rw) && B.cells.all (S.kept keep)) = true) (K (v.ren (R.prom h.length keep)) (h ++ l.map (Blk.ren (R.prom h.length keep))))
      | none => False)

structure DF where
  ntmps : Nat
  body : DC
  res : List RV

def fin (n0 : Nat) (rs : List RV) (K : V → List Blk → Prop) (e : Ex) (s : St) : Prop :=
  match e with
  | .ext _ => False
  | _ => match rvals s rs with
    | some l => ∃ v ls h, Wk n0 ⟨[result l], s.ls, s.h⟩ ⟨[v], ls, h⟩ ∧ leave v ls h K
    | none => False

def fwp (Γ : FuncId → FSpec) (F : DF) : FSpec := fun args h K =>
  ∃ Kf : Ex → St → Prop, (∀ e s, Kf e s → fin h.length F.res K e s) ∧
    ∃ s, Wk h.length ⟨args ++ List.replicate (F.ntmps - args.length) (.tup []), [], h⟩ s ∧ dwp Γ h.length F.body s Kf

end Go.D

