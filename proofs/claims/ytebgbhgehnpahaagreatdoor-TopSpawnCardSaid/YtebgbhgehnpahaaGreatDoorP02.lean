/- A part of the proof of the claim that the last text of this folder states. -/
import Derived.OrdersHeld
import Derived.Test.YtebgbhgehnpahaaGreatDoorP01
namespace Go.E
set_option linter.all false
abbrev RES := V × Hp
abbrev Ans := Option RES
abbrev Cal := S → List V → Hp → Ans
abbrev KV := V → Hp → Ans
abbrev KT := T → Hp → Ans
noncomputable def natsB (a : List Nat) : List Nat → Bool :=
  List.rec (motive := fun _ => List Nat → Bool) (fun b => List.rec true (fun _ _ _ => false) b) (fun x _ ih b => List.rec false (fun y b _ => and (Nat.beq x y) (ih b)) b) a
noncomputable def eqS1 (a b : S) : Option Bool :=
  S.rec (fun x => S.rec (fun y => some (Bool.rec (Bool.not y) y x)) (fun _ _ => none) (fun _ _ => none) none (fun _ _ _ _ => none) none (fun _ _ => none) (fun _ _ => none) (fun _ _ _ _ => none) none (fun _ => none) (fun _ => none) none (fun _ => none) none (fun _ _ => none) b) (fun k x => S.rec (fun _ => none) (fun k' y => onB (and (kEq k k') (and (reB x) (reB y))) (some (eqF x y)) (syB .eql k k' x y)) (fun _ _ => none) none (fun _ _ _ _ => none) none (fun _ _ => none) (fun _ _ => none) (fun _ _ _ _ => none) none (fun _ => none) (fun _ => none) none (fun _ => none) none (fun _ _ => none) b) (fun _ _ => none) none (fun _ _ _ _ => none) none (fun _ _ => none) (fun _ _ => none) (fun _ _ _ _ => none) none (fun _ => none) (fun _ => none) none (fun _ => none) none (fun _ _ => none) a
noncomputable def eqSs (a : List S) : List S → Option Bool :=
  List.rec (motive := fun _ => List S → Option Bool) (fun b => List.rec (some true) (fun _ _ _ => none) b)
    (fun x _ ih b => List.rec none (fun y b _ => onO (eqS1 x y) fun p => onO (ih b) fun q => some (and p q)) b) a
noncomputable def eqI (a b : S) : Option Bool :=
  S.rec (fun _ => none) (fun k x => S.rec (fun _ => none) (fun k' y => onB (and (kEq k k') (and (reB x) (reB y))) (some (eqF x y)) none) (fun _ _ => none) none (fun _ _ _ _ => none) none (fun _ _ => none) (fun _ _ => none) (fun _ _ _ _ => none) none (fun _ => none) (fun _ => none) none (fun _ => none) none (fun _ _ => none) b) (fun _ _ => none) none (fun _ _ _ _ => none) none (fun _ _ => none) (fun _ _ => none) (fun _ _ _ _ => none) none (fun _ => none) (fun _ => none) none (fun _ => none) none (fun _ _ => none) a
noncomputable def kdN (k : IntKind) : Nat := IntKind.rec 0 1 2 3 4 5 6 7 k
noncomputable def inN (n : Int) (l : List Nat) : List Nat := Int.rec (fun m => 0 :: m :: l) (fun m => 1 :: m :: l) n
noncomputable def capN (cs : List (Pth × Nat)) : List Nat := List.rec [] (fun x _ ih => Prod.rec (fun r o => r.n :: o :: ih) x) cs
noncomputable def sKey (s : S) : List Nat :=
  S.rec (fun x => [0, Bool.rec 0 1 x]) (fun k n => 1 :: kdN k :: inN n []) (fun r o => [2, r.n, o]) [3] (fun r o n c => [4, r.n, o, n, c]) [5] (fun a c => [6]) (fun f cs => 7 :: f.n :: capN cs) (fun f q r o => [8, f.n, Bool.rec 0 1 q, r.n, o]) [9] (fun l => 10 :: l) (fun r => [11, r.n]) [12] (fun r => [13, r.n]) [14] (fun r n => [15, r.n, n]) s
noncomputable def isEs (s : S) : Bool := S.rec (fun _ => false) (fun _ _ => false) (fun _ _ => false) false (fun _ _ _ _ => false) false (fun _ _ => true) (fun _ _ => false) (fun _ _ _ _ => false) false (fun _ => false) (fun _ => false) false (fun _ => false) false (fun _ _ => false) s
noncomputable def sEq0 (a b : S) : Bool := and (Bool.not (isEs a)) (natsB (sKey a) (sKey b))
noncomputable def sEq (a b : S) : Bool := S.rec (fun _ => sEq0 a b) (fun k n => S.rec (fun _ => false) (fun k' n' => Bool.rec false (kEq k k') (eqF n n')) (fun _ _ => false) false (fun _ _ _ _ => false) false (fun _ _ => false) (fun _ _ => false) (fun _ _ _ _ => false) false (fun _ => false) (fun _ => false) false (fun _ => false) false (fun _ _ => false) b) (fun _ _ => sEq0 a b) (sEq0 a b) (fun _ _ _ _ => sEq0 a b) (sEq0 a b) (fun _ _ => sEq0 a b) (fun _ _ => sEq0 a b) (fun _ _ _ _ => sEq0 a b) (sEq0 a b) (fun _ => sEq0 a b) (fun _ => sEq0 a b) (sEq0 a b) (fun _ => sEq0 a b) (sEq0 a b) (fun _ _ => sEq0 a b) a
noncomputable def ssEq (a : List S) : List S → Bool :=
  List.rec (motive := fun _ => List S → Bool) (fun b => List.rec true (fun _ _ _ => false) b) (fun x _ ih b => List.rec false (fun y b _ => and (sEq x y) (ih b)) b) a
noncomputable def cEq (a b : C) : Bool := C.rec (fun x => C.rec (fun y => sEq x y) (fun _ => false) b) (fun x => C.rec (fun _ => false) (fun y => ssEq x y) b) a
noncomputable def csEq (a : List C) : List C → Bool :=
  List.rec (motive := fun _ => List C → Bool) (fun b => List.rec true (fun _ _ _ => false) b) (fun x _ ih b => List.rec false (fun y b _ => and (cEq x y) (ih b)) b) a
noncomputable def vEq (a b : V) : Bool :=
  V.rec (fun x => V.rec (fun y => sEq x y) (fun _ => false) (fun _ => false) false b) (fun x => V.rec (fun _ => false) (fun y => ssEq x y) (fun _ => false) false b) (fun x => V.rec (fun _ => false) (fun _ => false) (fun y => csEq x y) false b) false a
noncomputable def nilB (kd : Nat) (s : S) : Option Bool :=
  Nat.rec (S.rec (fun _ => none) (fun _ _ => none) (fun _ _ => some false) (some true) (fun _ _ _ _ => none) none (fun _ _ => none) (fun _ _ => none) (fun _ _ _ _ => none) none (fun _ => none) (fun _ => none) none (fun _ => none) none (fun _ _ => none) s) (fun kd _ =>
  Nat.rec (S.rec (fun _ => none) (fun _ _ => none) (fun _ _ => none) none (fun _ _ _ _ => some false) (some true) (fun _ _ => some false) (fun _ _ => none) (fun _ _ _ _ => none) none (fun _ => none) (fun _ => none) none (fun _ => none) none (fun _ _ => none) s) (fun kd _ =>
  Nat.rec (S.rec (fun _ => none) (fun _ _ => none) (fun _ _ => none) none (fun _ _ _ _ => none) none (fun _ _ => none) (fun _ _ => none) (fun _ _ _ _ => none) none (fun _ => none) (fun _ => some false) (some true) (fun _ => none) none (fun _ _ => none) s) (fun _ _ =>
  S.rec (fun _ => none) (fun _ _ => none) (fun _ _ => none) none (fun _ _ _ _ => none) none (fun _ _ => none) (fun _ _ => some false) (fun _ _ _ _ => some false) (some true) (fun _ => none) (fun _ => none) none (fun _ => some false) none (fun _ _ => none) s) kd) kd) kd
section
variable (cal : Cal) (t : T) (h : Hp) (k : KV)
noncomputable def retK (r : Ans) : Ans := Option.rec none (fun r => Prod.rec k r) r
end
noncomputable def x_mv (x : O) (cal : Cal) (t : T) (h : Hp) (k : KV) : Ans := k (ev t x) h
noncomputable def x_pick (c a b : O) (cal : Cal) (t : T) (h : Hp) (k : KV) : Ans := asB (ev t c) fun q => Bool.rec (k (ev t b) h) (k (ev t a) h) q
noncomputable def x_new (z : List S) (cal : Cal) (t : T) (h : Hp) (k : KV) : Ans := h.pushK (.c z) fun h' => k (.s (.p h.n 0)) h'
noncomputable def x_box (x : O) (cal : Cal) (t : T) (h : Hp) (k : KV) : Ans := asC (ev t x) fun vs => h.pushK (.c vs) fun h' => k (.s (.p h.n 0)) h'
noncomputable def x_build (z : List S) (parts : List (Nat × Nat × O)) (cal : Cal) (t : T) (h : Hp) (k : KV) : Ans := fillK t parts z fun z => k (.agg z) h
noncomputable def x_bsl (n : Nat) (z : List S) (parts : List (Nat × Nat × O)) (cal : Cal) (t : T) (h : Hp) (k : KV) : Ans := fillK t parts z fun z => h.pushK (.c z) fun h' => k (.s (.sl h.n 0 n n)) h'
noncomputable def x_ld (a : O) (cal : Cal) (t : T) (h : Hp) (k : KV) : Ans := asP (ev t a) fun r o => ld1 (h.gb r) o fun s => k (.s s) h
noncomputable def x_ldn (a : O) (n : Nat) (cal : Cal) (t : T) (h : Hp) (k : KV) : Ans := asP (ev t a) fun r o => ldN (h.gb r) o n fun l => k (.agg l) h
noncomputable def isU (v : V) : Bool := V.rec (fun s => S.rec (fun _ => false) (fun k n => Bool.rec (kEq k .i64) false (kn n)) (fun _ _ => false) false (fun _ _ _ _ => false) false (fun _ _ => false) (fun _ _ => false) (fun _ _ _ _ => false) false (fun _ => false) (fun _ => false) false (fun _ => false) false (fun _ _ => false) s) (fun _ => false) (fun _ => false) false v
noncomputable def cuK (b : B) (c : Ans) : Ans := B.rec none (fun _ => none) (fun _ => none) (fun _ _ _ => none) (fun _ _ _ _ => none) (fun _ _ => none) (fun _ => none) (fun _ _ _ _ => none) (fun _ _ _ _ _ _ => none) none (fun _ => c) (fun _ => none) b
noncomputable def x_st (a x : O) (n : Nat) (cal : Cal) (t : T) (h : Hp) (k : KV) : Ans :=
  asP (ev t a) fun r o => Bool.rec (asC (ev t x) fun vs => storeK h r o n vs fun h => k vu h) (onB (and (Nat.beq o 1) (Nat.beq n 1)) (cuK (h.gb r) (k vu h)) none) (isU (ev t x))
noncomputable def x_nil (x : O) (cal : Cal) (t : T) (h : Hp) (k : KV) : Ans :=
  asS (ev t x) fun s => S.rec (fun _ => none) (fun _ _ => none) (fun r o => k (.s (.p r o)) h) none (fun _ _ _ _ => none) none (fun _ _ => none) (fun f cs => k (.s (.fn f cs)) h) (fun f q r o => k (.s (.fm f q r o)) h) none (fun _ => none) (fun _ => none) none (fun r => k (.s (.yl r)) h) none (fun _ _ => none) s
noncomputable def x_bin (op : BinOp) (x y : O) (cal : Cal) (t : T) (h : Hp) (k : KV) : Ans := asI (ev t x) fun k1 a => asI (ev t y) fun k2 b => binV op k1 k2 a b fun v => k v h
noncomputable def x_eqb (neg : Bool) (x y : O) (cal : Cal) (t : T) (h : Hp) (k : KV) : Ans :=
  asB (ev t x) fun a => asB (ev t y) fun b => rQ (Bool.rec (Bool.rec (Bool.not b) b a) (Bool.rec b (Bool.not b) a) neg) fun v => k v h
noncomputable def cmpSs (ks : List Bool) : List S → List S → Bool :=
  List.rec (motive := fun _ => List S → List S → Bool) (fun a b => List.rec (List.rec true (fun _ _ _ => false) b) (fun _ _ _ => false) a)
    (fun q _ ih a b => List.rec false (fun x a _ => List.rec false (fun y b _ =>
      and (S.rec (fun _ => Bool.rec (S.rec (fun _ => true) (fun _ _ => false) (fun _ _ => false) false (fun _ _ _ _ => false) false (fun _ _ => false) (fun _ _ => false) (fun _ _ _ _ => false) false (fun _ => false) (fun _ => false) false (fun _ => false) false (fun _ _ => false) y) false q) (fun j _ => Bool.rec false (S.rec (fun _ => false) (fun k _ => kEq j k) (fun _ _ => false) false (fun _ _ _ _ => false) false (fun _ _ => false) (fun _ _ => false) (fun _ _ _ _ => false) false (fun _ => false) (fun _ => false) false (fun _ => false) false (fun _ _ => false) y) q) (fun _ _ => false) false (fun _ _ _ _ => false) false (fun _ _ => false) (fun _ _ => false) (fun _ _ _ _ => false) false (fun _ => false) (fun _ => false) false (fun _ => false) false (fun _ _ => false) x) (ih a b)) b) a) ks
noncomputable def x_eqa (neg : Bool) (ks : List Bool) (x y : O) (cal : Cal) (t : T) (h : Hp) (k : KV) : Ans :=
  asA (ev t x) fun a => asA (ev t y) fun b => onB (cmpSs ks a b) (onO (eqSs a b) fun q => rQ (Bool.rec q (Bool.not q) neg) fun v => k v h) none
noncomputable def x_eqn (kd : Nat) (neg : Bool) (x : O) (cal : Cal) (t : T) (h : Hp) (k : KV) : Ans :=
  asS (ev t x) fun s => onO (nilB kd s) fun q => rQ (Bool.rec q (Bool.not q) neg) fun v => k v h
noncomputable def x_un (op : UnOp) (x : O) (cal : Cal) (t : T) (h : Hp) (k : KV) : Ans :=
  UnOp.rec (asI (ev t x) fun kd n => onB (reB n) (rI kd (Int.sub 0 n) fun v => k v h) none) (asI (ev t x) fun kd n => onB (reB n) (rI' kd (bits .xor kd (if kd.signed then -1 else kd.max) n) fun v => k v h) none) (asB (ev t x) fun q => rQ (Bool.not q) fun v => k v h) none op
noncomputable def cvY (kd : IntKind) (n : Int) : Bool := Int.rec (fun m => and (isY m) (Nat.blt (sHi m) (lim kd))) (fun _ => false) n
noncomputable def x_conv (kd : IntKind) (x : O) (cal : Cal) (t : T) (h : Hp) (k : KV) : Ans := asI (ev t x) fun _ n => onB (reB n) (rI kd n fun v => k v h) (onB (cvY kd n) (k (.s (.i kd n)) h) none)
noncomputable def x_mkf (f : Pth) (caps : List O) (cal : Cal) (t : T) (h : Hp) (k : KV) : Ans := onO (capsK (evs t caps)) fun cs => k (.s (.fn f cs)) h
noncomputable def x_mkm (f : Pth) (x : O) (cal : Cal) (t : T) (h : Hp) (k : KV) : Ans :=
  V.rec (fun s => asP (.s s) fun r o => k (.s (.fm f false r o)) h) (fun l => List.rec none (fun s l _ => List.rec (asP (.s s) fun r o => k (.s (.fm f true r o)) h) (fun _ _ _ => none) l) l) (fun _ => none) none (ev t x)
noncomputable def mksB (z : List S) (c : Nat) : B :=
  List.rec (.c (zerosS z c)) (fun s l _ => List.rec (S.rec (fun _ => .c (zerosS z c)) (fun k n => Bool.rec (.c (zerosS z c)) (.w k c (Nat.succ (Nat.log2 c)) (wmk 0 (Nat.succ (Nat.log2 c)))) (and (Nat.ble 64 c) (eqF n 0))) (fun _ _ => .c (zerosS z c)) (.c (zerosS z c)) (fun _ _ _ _ => .c (zerosS z c)) (.c (zerosS z c)) (fun _ _ => .c (zerosS z c)) (fun _ _ => .c (zerosS z c)) (fun _ _ _ _ => .c (zerosS z c)) (.c (zerosS z c)) (fun _ => .c (zerosS z c)) (fun _ => .c (zerosS z c)) (.c (zerosS z c)) (fun _ => .c (zerosS z c)) (.c (zerosS z c)) (fun _ _ => .c (zerosS z c)) s) (fun _ _ _ => .c (zerosS z c)) l) z
noncomputable def x_mks (es bytes : Nat) (z : List S) (x y : O) (cal : Cal) (t : T) (h : Hp) (k : KV) : Ans :=
  asI (ev t x) fun _ n => asI (ev t y) fun _ c => Int.rec (fun n => Int.rec (fun c =>
    onB (and (Nat.ble n c) (and (Nat.ble c 1099511627776) (Nat.ble (Nat.mul bytes c) 281474976710656))) (h.pushK (mksB z c) fun h' => k (.s (.sl h.n 0 n c)) h') none) (fun _ => none) c) (fun _ => none) n
noncomputable def slcK (es : Nat) (r : Pth) (o len cap : Nat) (t : T) (lo hi mx : Option O) (h : Hp) (k : KV) : Ans :=
  bndK t 0 lo fun l => bndK t len hi fun u => Option.rec (Bool.rec (onB (and (Nat.ble l u) (Nat.ble u cap)) (fN (Bool.rec (Nat.add o (Nat.mul l es)) o (Nat.beq cap l)) fun o => fN (Nat.sub u l) fun n => fN (Nat.sub cap l) fun c => k (.s (.sl r o n c)) h) none) (onB (and (Nat.ble l u) (and (Nat.ble u (Nat.sub cap G)) (or (Nat.beq l 0) (Nat.blt l (Nat.sub cap G))))) (fN (Nat.add o (Nat.mul l es)) fun o => fN (Nat.sub u l) fun n => fN (Nat.sub cap l) fun c => k (.s (.sl r o n c)) h) none) (Nat.ble G cap)) (fun _ => bndK t 0 mx fun m =>
      onB (and (Nat.ble l u) (and (Nat.ble u m) (and (Nat.blt m G) (Nat.ble m (Bool.rec cap (Nat.sub cap G) (Nat.ble G cap)))))) (fN (Bool.rec (Nat.add o (Nat.mul l es)) o (Nat.beq m l)) fun o => fN (Nat.sub u l) fun n => fN (Nat.sub m l) fun c => k (.s (.sl r o n c)) h) none) mx
noncomputable def x_slc (arr : Option Nat) (es : Nat) (x : O) (lo hi mx : Option O) (cal : Cal) (t : T) (h : Hp) (k : KV) : Ans :=
  Option.rec (asS (ev t x) fun s => S.rec (fun _ => none) (fun _ _ => none) (fun _ _ => none) none (fun r o n c => slcK es r o n c t lo hi mx h k) (bndK t 0 lo fun l => bndK t 0 hi fun u => Option.rec (onB (and (Nat.beq l 0) (Nat.beq u 0)) (k (.s .ns) h) none) (fun _ => none) mx) (fun _ _ => none) (fun _ _ => none) (fun _ _ _ _ => none) none (fun _ => none) (fun _ => none) none (fun _ => none) none (fun _ _ => none) s) (fun n => asP (ev t x) fun r o => slcK es r o n n t lo hi mx h k) arr
noncomputable def x_fa (x : O) (off : Nat) (cal : Cal) (t : T) (h : Hp) (k : KV) : Ans := asP (ev t x) fun r o => fN (Nat.add o off) fun o => k (.s (.p r o)) h
noncomputable def x_fld (x : O) (off : Nat) (n : Option Nat) (cal : Cal) (t : T) (h : Hp) (k : KV) : Ans :=
  asA (ev t x) fun l => Option.rec (onO (nthF l off) fun s => k (.s s) h) (fun n => onO (tkF (drF l off) n) fun l => k (.agg l) h) n
noncomputable def idxK (i : V) (n : Nat) (c : Nat → Ans) : Ans := asI i fun _ i => Int.rec (fun i => onB (and (Nat.blt i n) (Nat.blt i 18446744073709551616)) (c i) none) (fun _ => none) i
noncomputable def x_ia (arr : Option Nat) (es : Nat) (x i : O) (cal : Cal) (t : T) (h : Hp) (k : KV) : Ans :=
  Option.rec (asS (ev t x) fun s => S.rec (fun _ => none) (fun _ _ => none) (fun _ _ => none) none (fun r o n _ => idxK (ev t i) n fun i => fN (Nat.add o (Nat.mul i es)) fun o => k (.s (.p r o)) h) none (fun _ _ => none) (fun _ _ => none) (fun _ _ _ _ => none) none (fun _ => none) (fun _ => none) none (fun _ => none) none (fun r n => idxK (ev t i) (Bool.rec (Nat.mod n 4294967296) n (Nat.blt n 4294967296)) fun i => fN (Nat.add 0 (Nat.mul i es)) fun o => k (.s (.p r o)) h) s) (fun n => asP (ev t x) fun r o => idxK (ev t i) n fun i => fN (Nat.add o (Nat.mul i es)) fun o => k (.s (.p r o)) h) arr
noncomputable def x_ix (len es : Nat) (n : Option Nat) (x i : O) (cal : Cal) (t : T) (h : Hp) (k : KV) : Ans :=
  asA (ev t x) fun l => idxK (ev t i) len fun i => Option.rec (onO (nthF l (Nat.mul i es)) fun s => k (.s s) h) (fun n => onO (tkF (drF l (Nat.mul i es)) n) fun l => k (.agg l) h) n
noncomputable def nthN (l : List Nat) : Nat → Option Nat := List.rec (motive := fun _ => Nat → Option Nat) (fun _ => none) (fun x _ ih n => Nat.rec (some x) (fun q0_ _ => ih q0_) n) l
noncomputable def x_ixs (x i : O) (cal : Cal) (t : T) (h : Hp) (k : KV) : Ans :=
  asS (ev t x) fun s => S.rec (fun _ => none) (fun _ _ => none) (fun _ _ => none) none (fun _ _ _ _ => none) none (fun _ _ => none) (fun _ _ => none) (fun _ _ _ _ => none) none (fun l => asI (ev t i) fun _ i => Int.rec (fun i => onB (Nat.blt i 18446744073709551616) (onO (nthN l i) fun b => onB (Nat.blt b 256) (k (.s (.i .u8 (.ofNat b))) h) none) none) (fun _ => none) i) (fun _ => none) none (fun _ => none) none (fun _ _ => none) s
noncomputable def nthC (l : List C) : Nat → Option C := List.rec (motive := fun _ => Nat → Option C) (fun _ => none) (fun x _ ih n => Nat.rec (some x) (fun q0_ _ => ih q0_) n) l
noncomputable def C.toV (c : C) : V := C.rec V.s V.agg c
noncomputable def V.toC (v : V) (c : C → Ans) : Ans := V.rec (fun s => onB (nU s) (c (.s s)) none) (fun l => c (.agg l)) (fun _ => none) none v
noncomputable def x_ext (x : O) (j : Nat) (cal : Cal) (t : T) (h : Hp) (k : KV) : Ans :=
  V.rec (fun _ => none) (fun _ => none) (fun cs => onO (nthC cs j) fun c => k c.toV h) none (ev t x)
noncomputable def x_call (f : Pth) (args : List O) (cal : Cal) (t : T) (h : Hp) (k : KV) : Ans := retK k (cal (.fn f []) (evs t args) h)
noncomputable def x_callv (f : O) (args : List O) (cal : Cal) (t : T) (h : Hp) (k : KV) : Ans := asS (ev t f) fun s => retK k (cal s (evs t args) h)
noncomputable def x_len (x : O) (cal : Cal) (t : T) (h : Hp) (k : KV) : Ans :=
  asS (ev t x) fun s => S.rec (fun _ => none) (fun _ _ => none) (fun _ _ => none) none (fun _ _ n _ => onB (Nat.blt n 18446744073709551616) (k (.s (.i .i64 (.ofNat n))) h) none) (k (.s (.i .i64 (.ofNat 0))) h) (fun _ _ => k (.s (.i .i64 (.ofNat 0))) h) (fun _ _ => none) (fun _ _ _ _ => none) none (fun _ => none) (fun _ => none) none (fun _ => none) none (fun _ n => Bool.rec (fN (Nat.mod n 4294967296) fun n => k (.s (.i .i64 (.ofNat n))) h) (fN (Nat.add gN n) fun n => k (.s (.i .i64 (.ofNat n))) h) (Nat.blt n 4294967296)) s
noncomputable def mpK (b : B) (c : List (V × V × Nat) → Nat → Ans) : Ans :=
  B.rec none (fun _ => none) (fun _ => none) (fun _ _ _ => none) (fun _ _ _ _ => none) c (fun _ => none) (fun _ _ _ _ => none) (fun _ _ _ _ _ _ => none) none (fun _ => none) (fun _ => none) b
noncomputable def x_lenm (x : O) (cal : Cal) (t : T) (h : Hp) (k : KV) : Ans :=
  asS (ev t x) fun s => S.rec (fun _ => none) (fun _ _ => none) (fun _ _ => none) none (fun _ _ _ _ => none) none (fun _ _ => none) (fun _ _ => none) (fun _ _ _ _ => none) none (fun _ => none) (fun r => mpK (h.gb r) fun es _ => lenF es fun n => onB (Nat.blt n 18446744073709551616) (k (.s (.i .i64 (.ofNat n))) h) none) (k (.s (.i .i64 (.ofNat 0))) h) (fun _ => none) none (fun _ _ => none) s
noncomputable def grK (b : B) (c : List S → Nat → Nat → Ans) : Ans :=
  B.rec none (fun _ => none) (fun _ => none) (fun cs m es => c cs m es) (fun _ _ _ _ => none) (fun _ _ => none) (fun _ => none) (fun _ _ _ _ => none) (fun _ _ _ _ _ _ => none) none (fun _ => none) (fun _ => none) b
noncomputable def appN (es bytes n : Nat) (cs : List S) (h : Hp) (k : KV) : Ans :=
  onB (Nat.ble (Nat.mul n bytes) 140737488355328) (h.pushK (.gr cs n es) fun h' => fN (Nat.add G n) fun c => k (.s (.sl h.n 0 n c)) h') none
noncomputable def appG (es bytes : Nat) (r : Pth) (o len n m cap : Nat) (new : List S) (cs : List S) (rm es' : Nat) (h : Hp) (k : KV) : Ans :=
  onB (and (Nat.beq es es') (Nat.ble (Nat.sub cap G) rm)) (Bool.rec (onB (and (Nat.beq o 0) (Nat.ble (Nat.mul m bytes) 140737488355328)) (h.setK r .dd fun h => h.pushK (.gr (apF cs new) m es) fun h' => fN (Nat.add G m) fun c => k (.s (.sl h.n 0 m c)) h') none) (onB (Nat.ble (Nat.add o (Nat.mul m es)) (Nat.mul rm es)) (widK h r new fun h => h.setK r (.gr (apF cs new) rm es) fun h => k (.s (.sl r o m cap)) h) none) (Nat.ble m (Nat.sub cap G))) none
noncomputable def x_app (es bytes : Nat) (x y : O) (cal : Cal) (t : T) (h : Hp) (k : KV) : Ans :=
  asS (ev t y) fun sy => shK h es sy fun n new => asS (ev t x) fun s => onB (Nat.blt 0 es)
    (S.rec (fun _ => none) (fun _ _ => none) (fun _ _ => none) none (fun r o len cap => fN (Nat.add len n) fun m => Bool.rec (Bool.rec (ldN (h.gb r) o (Nat.mul len es) fun old => appN es bytes m (apF old new) h k) (storeK h r (Nat.add o (Nat.mul len es)) (Nat.mul n es) new fun h => k (.s (.sl r o m cap)) h) (Nat.ble m cap)) (grK (h.gb r) fun cs rm es' => lenF cs fun l =>
          Bool.rec (onB (Nat.ble m (Nat.sub cap G)) (storeK h r (Nat.add o (Nat.mul len es)) (Nat.mul n es) new fun h => k (.s (.sl r o m cap)) h) none) (appG es bytes r o len n m cap new cs rm es' h k) (Nat.beq l (Nat.add o (Nat.mul len es)))) (Nat.ble G cap)) (Nat.rec none (fun m _ => appN es bytes (Nat.succ m) new h k) n) (fun _ _ => none) (fun _ _ => none) (fun _ _ _ _ => none) none (fun _ => none) (fun _ => none) none (fun _ => none) none (fun _ _ => none) s) none
noncomputable def x_cpy (es : Nat) (x y : O) (cal : Cal) (t : T) (h : Hp) (k : KV) : Ans :=
  asS (ev t y) fun sy => shK h es sy fun n src => asS (ev t x) fun s =>
    S.rec (fun _ => none) (fun _ _ => none) (fun _ _ => none) none (fun r o len _ => fN (Nat.min n len) fun m => onO (tkF src (Nat.mul m es)) fun src => onB (Nat.blt m 18446744073709551616) (storeK h r o (Nat.mul m es) src fun h => k (.s (.i .i64 (.ofNat m))) h) none) (k (.s (.i .i64 (.ofNat 0))) h) (fun _ _ => none) (fun _ _ => none) (fun _ _ _ _ => none) none (fun _ => none) (fun _ => none) none (fun _ => none) none (fun _ _ => none) s
noncomputable def mxY (n m : Int) : Option Bool := natsK n m fun x y => rgK x fun la ha => rgK y fun lb hb => onB (Nat.ble ha lb) (some true) (onB (Nat.ble hb la) (some false) none)
noncomputable def x_mx (isMax : Bool) (x y : O) (cal : Cal) (t : T) (h : Hp) (k : KV) : Ans :=
  asI (ev t x) fun k1 a => asI (ev t y) fun k2 b => onB (and (kEq k1 k2) (and (reB a) (reB b)))
    (Bool.rec (Bool.rec (k (.s (.i k1 b)) h) (k (.s (.i k1 a)) h) (leF a b)) (Bool.rec (k (.s (.i k1 a)) h) (k (.s (.i k1 b)) h) (leF a b)) isMax)
    (onB (kEq k1 k2) (onO (mxY a b) fun q => Bool.rec (Bool.rec (k (.s (.i k1 b)) h) (k (.s (.i k1 a)) h) q) (Bool.rec (k (.s (.i k1 a)) h) (k (.s (.i k1 b)) h) q) isMax) none)
noncomputable def x_arr (n : Nat) (x : O) (cal : Cal) (t : T) (h : Hp) (k : KV) : Ans :=
  asS (ev t x) fun s => S.rec (fun _ => none) (fun _ _ => none) (fun _ _ => none) none (fun r o len _ => onB (Nat.ble n len) (k (.s (.p r o)) h) none) none (fun _ _ => none) (fun _ _ => none) (fun _ _ _ _ => none) none (fun _ => none) (fun _ => none) none (fun _ => none) none (fun _ _ => none) s
noncomputable def x_mkmap (cal : Cal) (t : T) (h : Hp) (k : KV) : Ans := h.pushK (.mp [] 0) fun h' => k (.s (.mp h.n)) h'
abbrev ME := V × V × Nat
noncomputable def bytB (n : Nat) : Bool := Nat.blt n 256
noncomputable def stG {γ : Type} (s : S) (z : γ) (c : List Nat → γ) : γ := S.rec (fun _ => z) (fun _ _ => z) (fun _ _ => z) z (fun _ _ _ _ => z) z (fun _ _ => z) (fun _ _ => z) (fun _ _ _ _ => z) z c (fun _ => z) z (fun _ => z) z (fun _ _ => z) s
noncomputable def eqT (a b : S) : Option Bool := stG a none fun x => stG b none fun y => onB (and (allF bytB x) (allF bytB y)) (some (natsB x y)) none
noncomputable def eqK (ks : List Bool) (a b : V) : Option Bool :=
  List.rec (V.rec (fun x => V.rec (fun y => eqI x y) (fun _ => none) (fun _ => none) none b) (fun _ => none) (fun _ => none) none a) (fun k ks _ => List.rec (V.rec (fun x => V.rec (fun y => eqT x y) (fun _ => none) (fun _ => none) none b) (fun _ => none) (fun _ => none) none a) (fun k2 ks _ => V.rec (fun _ => none) (fun x => V.rec (fun _ => none) (fun y => onB (cmpSs (k :: k2 :: ks) x y) (eqSs x y) none) (fun _ => none) none b) (fun _ => none) none a) ks) ks
noncomputable def keyB (ks : List Bool) (v : V) : Bool :=
  List.rec (V.rec (fun s => S.rec (fun _ => false) (fun _ n => reB n) (fun _ _ => false) false (fun _ _ _ _ => false) false (fun _ _ => false) (fun _ _ => false) (fun _ _ _ _ => false) false (fun _ => false) (fun _ => false) false (fun _ => false) false (fun _ _ => false) s) (fun _ => false) (fun _ => false) false v) (fun k ks _ => List.rec (V.rec (fun s => stG s false fun l => allF bytB l) (fun _ => false) (fun _ => false) false v) (fun k2 ks _ => V.rec (fun _ => false) (fun x => cmpSs (k :: k2 :: ks) x x) (fun _ => false) false v) ks) ks
noncomputable def fndK (ks : List Bool) (key : V) (fd : V → Ans) (nf : Unit → Ans) (es : List ME) : Ans :=
  List.rec (nf ()) (fun e _ ih => Prod.rec (fun a q => onO (eqK ks key a) fun b => Bool.rec ih (Prod.rec (fun v _ => fd v) q) b) e) es
noncomputable def updM (ks : List Bool) (key val : V) (es : List ME) : (List ME → Ans) → (Unit → Ans) → Ans :=
  List.rec (motive := fun _ => (List ME → Ans) → (Unit → Ans) → Ans) (fun _ nf => nf ())
    (fun e es ih fd nf => Prod.rec (fun a q => onO (eqK ks key a) fun b => Bool.rec (ih (fun l => fd (e :: l)) nf) (Prod.rec (fun _ b => fd ((a, val, b) :: es)) q) b) e) es
noncomputable def apM (a b : List ME) : List ME := List.rec b (fun x _ ih => x :: ih) a
noncomputable def lkB (b : B) (c : List ME → Ans) (d : List (V × V) → Ans) : Ans :=
  B.rec none (fun _ => none) (fun _ => none) (fun _ _ _ => none) (fun _ _ _ _ => none) (fun es _ => c es) d (fun _ _ _ _ => none) (fun _ _ _ _ _ _ => none) none (fun _ => none) (fun _ => none) b
noncomputable def uniK (ks : List Bool) (key : V) (es : List (V × V)) : Option (Option V) :=
  List.rec (some none) (fun x _ ih => Prod.rec (fun a v => onO (eqK ks key a) fun b => onO ih fun r => Bool.rec (some r) (Option.rec (some (some v)) (fun _ => none) r) b) x) es
noncomputable def lkR (ok : Bool) (v : V) (q : Bool) (h : Hp) (k : KV) : Ans := Bool.rec (k v h) (v.toC fun c => k (.tup [c, .s (.b q)]) h) ok
noncomputable def x_lk (ok : Bool) (ks : List Bool) (z : V) (m key : O) (cal : Cal) (t : T) (h : Hp) (k : KV) : Ans :=
  onB (keyB ks (ev t key)) (asS (ev t m) fun s => S.rec (fun _ => none) (fun _ _ => none) (fun _ _ => none) none (fun _ _ _ _ => none) none (fun _ _ => none) (fun _ _ => none) (fun _ _ _ _ => none) none (fun _ => none) (fun r => lkB (h.gb r) (fun es => fndK ks (ev t key) (fun v => lkR ok v true h k) (fun _ => lkR ok z false h k) es) fun es => onO (uniK ks (ev t key) es) fun r => Option.rec (lkR ok z false h k) (fun v => lkR ok v true h k) r) (lkR ok z false h k) (fun _ => none) none (fun _ _ => none) s) none
noncomputable def x_up (ks : List Bool) (m key v : O) (cal : Cal) (t : T) (h : Hp) (k : KV) : Ans :=
  onB (keyB ks (ev t key)) (asS (ev t m) fun s => S.rec (fun _ => none) (fun _ _ => none) (fun _ _ => none) none (fun _ _ _ _ => none) none (fun _ _ => none) (fun _ _ => none) (fun _ _ _ _ => none) none (fun _ => none) (fun r => mpK (h.gb r) fun es ck => asC (ev t v) fun vc => widK h r vc fun h =>
      updM ks (ev t key) (ev t v) es (fun es => h.setK r (.mp es ck) fun h => k vu h) (fun _ => fN (Nat.succ ck) fun ck' => h.setK r (.mp (apM es [(ev t key, ev t v, ck)]) ck') fun h => k vu h)) none (fun _ => none) none (fun _ _ => none) s) none
noncomputable def x_rng (x : O) (cal : Cal) (t : T) (h : Hp) (k : KV) : Ans :=
  asS (ev t x) fun s => S.rec (fun _ => none) (fun _ _ => none) (fun _ _ => none) none (fun _ _ _ _ => none) none (fun _ _ => none) (fun _ _ => none) (fun _ _ _ _ => none) none (fun _ => none) (fun r => mpK (h.gb r) fun es ck => h.pushK (.it (some r) ck [] ck) fun h' => k (.s (.p h.n 0)) h') (h.pushK (.it none 0 [] 0) fun h' => k (.s (.p h.n 0)) h') (fun _ => none) none (fun _ _ => none) s
noncomputable def itK (b : B) (c : Option Pth → Nat → List Nat → Nat → Ans) : Ans :=
  B.rec none (fun _ => none) (fun _ => none) (fun _ _ _ => none) (fun _ _ _ _ => none) (fun _ _ => none) (fun _ => none) c (fun _ _ _ _ _ _ => none) none (fun _ => none) (fun _ => none) b
noncomputable def memN (x : Nat) (l : List Nat) : Bool := List.rec false (fun y _ ih => or (Nat.beq x y) ih) l
noncomputable def leftM (since : Nat) (seen : List Nat) (c : List ME → Ans) (es : List ME) : Ans :=
  List.rec (motive := fun _ => (List ME → Ans) → Ans) (fun c => c [])
    (fun e _ ih c => Prod.rec (fun a q => Prod.rec (fun v b => onB (Nat.blt b since) (Bool.rec (ih fun l => c (e :: l)) (ih c) (memN b seen)) none) q) e) es c
noncomputable def wtoEq (a : List (Nat × Int)) : List (Nat × Int) → Bool :=
  List.rec (motive := fun _ => List (Nat × Int) → Bool) (fun b => List.rec true (fun _ _ _ => false) b)
    (fun x _ ih b => List.rec false (fun y b _ => and (Prod.rec (fun i x => Prod.rec (fun j y => and (Nat.beq i j) (eqF x y)) y) x) (ih b)) b) a
noncomputable def wtEq (a b : Wt) : Bool := Wt.rec (fun m o => Wt.rec (fun m' o' => and (Nat.beq m m') (wtoEq o o')) b) a
noncomputable def mesEq (a : List ME) : List ME → Bool :=
  List.rec (motive := fun _ => List ME → Bool) (fun b => List.rec true (fun _ _ _ => false) b)
    (fun x _ ih b => List.rec false (fun y b _ => and (Prod.rec (fun k q => Prod.rec (fun v n => Prod.rec (fun k' q' => Prod.rec (fun v' n' => and (vEq k k') (and (vEq v v') (Nat.beq n n'))) q') y) q) x) (ih b)) b) a
noncomputable def mlsEq (a : List (V × V)) : List (V × V) → Bool :=
  List.rec (motive := fun _ => List (V × V) → Bool) (fun b => List.rec true (fun _ _ _ => false) b)
    (fun x _ ih b => List.rec false (fun y b _ => and (Prod.rec (fun k v => Prod.rec (fun k' v' => and (vEq k k') (vEq v v')) y) x) (ih b)) b) a
noncomputable def oEq (a b : Option Pth) : Bool := Option.rec (Option.rec true (fun _ => false) b) (fun x => Option.rec false (fun y => Nat.beq x.n y.n) b) a
noncomputable def bEq (a b : B) : Bool :=
  B.rec (B.rec true (fun _ => false) (fun _ => false) (fun _ _ _ => false) (fun _ _ _ _ => false) (fun _ _ => false) (fun _ => false) (fun _ _ _ _ => false) (fun _ _ _ _ _ _ => false) false (fun _ => false) (fun _ => false) b) (fun x => B.rec false (fun y => ssEq x y) (fun _ => false) (fun _ _ _ => false) (fun _ _ _ _ => false) (fun _ _ => false) (fun _ => false) (fun _ _ _ _ => false) (fun _ _ _ _ _ _ => false) false (fun _ => false) (fun _ => false) b) (fun x => B.rec false (fun _ => false) (fun y => ssEq x y) (fun _ _ _ => false) (fun _ _ _ _ => false) (fun _ _ => false) (fun _ => false) (fun _ _ _ _ => false) (fun _ _ _ _ _ _ => false) false (fun _ => false) (fun _ => false) b) (fun x m es => B.rec false (fun _ => false) (fun _ => false) (fun y m' es' => and (ssEq x y) (and (Nat.beq m m') (Nat.beq es es'))) (fun _ _ _ _ => false) (fun _ _ => false) (fun _ => false) (fun _ _ _ _ => false) (fun _ _ _ _ _ _ => false) false (fun _ => false) (fun _ => false) b) (fun k m D d => B.rec false (fun _ => false) (fun _ => false) (fun _ _ _ => false) (fun k' m' D' d' => and (kEq k k') (and (Nat.beq m m') (and (Nat.beq D D') (wtEq d d')))) (fun _ _ => false) (fun _ => false) (fun _ _ _ _ => false) (fun _ _ _ _ _ _ => false) false (fun _ => false) (fun _ => false) b) (fun x c => B.rec false (fun _ => false) (fun _ => false) (fun _ _ _ => false) (fun _ _ _ _ => false) (fun y c' => and (mesEq x y) (Nat.beq c c')) (fun _ => false) (fun _ _ _ _ => false) (fun _ _ _ _ _ _ => false) false (fun _ => false) (fun _ => false) b) (fun x => B.rec false (fun _ => false) (fun _ => false) (fun _ _ _ => false) (fun _ _ _ _ => false) (fun _ _ => false) (fun y => mlsEq x y) (fun _ _ _ _ => false) (fun _ _ _ _ _ _ => false) false (fun _ => false) (fun _ => false) b) (fun x a l n => B.rec false (fun _ => false) (fun _ => false) (fun _ _ _ => false) (fun _ _ _ _ => false) (fun _ _ => false) (fun _ => false) (fun y a' l' n' => and (oEq x y) (and (Nat.beq a a') (and (natsB l l') (Nat.beq n n')))) (fun _ _ _ _ _ _ => false) false (fun _ => false) (fun _ => false) b) (fun _ _ _ _ _ _ => false) (B.rec false (fun _ => false) (fun _ => false) (fun _ _ _ => false) (fun _ _ _ _ => false) (fun _ _ => false) (fun _ => false) (fun _ _ _ _ => false) (fun _ _ _ _ _ _ => false) true (fun _ => false) (fun _ => false) b) (fun x => B.rec false (fun _ => false) (fun _ => false) (fun _ _ _ => false) (fun _ _ _ _ => false) (fun _ _ => false) (fun _ => false) (fun _ _ _ _ => false) (fun _ _ _ _ _ _ => false) false (fun y => sEq x y) (fun _ => false) b) (fun x => B.rec false (fun _ => false) (fun _ => false) (fun _ _ _ => false) (fun _ _ _ _ => false) (fun _ _ => false) (fun _ => false) (fun _ _ _ _ => false) (fun _ _ _ _ _ _ => false) false (fun _ => false) (fun y => Nat.beq x y) b) a
noncomputable def eqAt (m i : Nat) (x y : B) : Bool := Bool.rec (bEq x y) true (Nat.ble m i)
noncomputable def n8q {α : Type} (f : Nat → α → α → Bool) (w i : Nat) (a b : N8 α) : Bool :=
  N8.casesOn a fun a0 a1 a2 a3 a4 a5 a6 a7 => N8.casesOn b fun b0 b1 b2 b3 b4 b5 b6 b7 =>
    and (f i a0 b0) (and (f (Nat.add i w) a1 b1) (and (f (Nat.add i (Nat.mul 2 w)) a2 b2) (and (f (Nat.add i (Nat.mul 3 w)) a3 b3)
      (and (f (Nat.add i (Nat.mul 4 w)) a4 b4) (and (f (Nat.add i (Nat.mul 5 w)) a5 b5) (and (f (Nat.add i (Nat.mul 6 w)) a6 b6) (f (Nat.add i (Nat.mul 7 w)) a7 b7)))))))
noncomputable def pastB (m i : Nat) (r : Bool) : Bool := Bool.rec r true (Nat.ble m i)
noncomputable def trEq (m : Nat) (a b : Tr B) : Bool := Tr.rec (fun s t _ => Tr.rec (fun s' t' _ =>
  and (Nat.ble m 576) (and (n8q (fun i x y => pastB m i (n8q (eqAt m) 1 i x y)) 8 0 s s') (pastB m 64 (n8q (fun i x y => pastB m i (n8q (fun i x y => pastB m i (n8q (eqAt m) 1 i x y)) 8 i x y)) 64 64 t t')))) b) a
noncomputable def hpEq (m : Nat) (a b : Hp) : Bool := Hp.rec (fun b1 _ er1 eq1 _ _ _ => Hp.rec (fun b2 _ er2 eq2 _ _ _ => and (Nat.beq er1 er2) (and (Nat.beq eq1 eq2) (trEq m b1 b2))) b) a
noncomputable def sameA (m : Nat) (r : RES) (x : Ans) : Ans := onO x fun r' => Prod.rec (fun v h => Prod.rec (fun v' h' => onB (and (vEq v v') (hpEq m h h')) (some (v, h)) none) r') r
noncomputable def eachM (m : Nat) (f : ME → Ans) (r : RES) (l : List ME) : Ans := List.rec (some r) (fun e _ ih => onO (sameA m r (f e)) fun _ => ih) l
noncomputable def apN (a b : List Nat) : List Nat := List.rec b (fun x _ ih => x :: ih) a
noncomputable def x_nxt (x : O) (cal : Cal) (t : T) (h : Hp) (k : KV) : Ans :=
  asP (ev t x) fun r o => onB (Nat.beq o 0) (itK (h.gb r) fun m since seen last => Option.rec (k (.tup [.s (.b false)]) h) (fun m => mpK (h.gb m) fun es ck => onB (and (Nat.beq ck last) (Nat.ble since last))
    (leftM since seen (fun l => List.rec (k (.tup [.s (.b false)]) h) (fun e l _ =>
      let f : ME → Ans := (fun e => Prod.rec (fun key q => Prod.rec (fun v b => key.toC fun key => v.toC fun v => h.setK r (.it (some m) since (apN seen [b]) ck) fun h => k (.tup [.s (.b true), key, v]) h) q) e)
      List.rec (f e) (fun e2 l _ => onB h.ch (onO (f e) fun r => eachM h.fz f r (e2 :: l)) none) l) l) es) none) m) none
noncomputable def lastN (l : List Nat) : Option Nat := List.rec none (fun x l ih => List.rec (some x) (fun _ _ _ => ih) l) l
noncomputable def bornK (b : Nat) (c : V → V → Ans) (es : List ME) : Ans := List.rec none (fun e _ ih => Prod.rec (fun a q => Prod.rec (fun v b' => Bool.rec ih (c a v) (Nat.beq b' b)) q) e) es
noncomputable def x_ent (x : O) (cal : Cal) (t : T) (h : Hp) (k : KV) : Ans :=
  asP (ev t x) fun r o => onB (Nat.beq o 0) (itK (h.gb r) fun m since seen last => onO m fun m => mpK (h.gb m) fun es ck => onB (Nat.beq ck last)
    (onO (lastN seen) fun b => bornK b (fun a v => a.toC fun a => v.toC fun v => k (.tup [a, v]) h) es) none) none
noncomputable def x_dfr (f : Pth) (args : List O) (cal : Cal) (t : T) (h : Hp) (k : KV) : Ans := Hp.rec (fun b n er eq fz df ch => k vu (Hp.mk b n er eq fz (.fn f (evs t args) :: df) ch)) h
noncomputable def exJ (op : J) : Cal → T → Hp → KV → Ans :=
  J.rec (motive := fun _ => Cal → T → Hp → KV → Ans) x_mv x_pick x_new x_box x_build x_bsl x_ld x_ldn x_st x_nil x_bin x_eqb x_eqa x_eqn x_un x_conv x_mkf x_mkm x_mks x_slc x_fa x_fld x_ia x_ix x_ixs x_ext x_call x_callv x_len x_lenm x_app x_cpy x_mx x_arr x_mkmap x_lk x_up x_rng x_nxt x_ent x_dfr op
noncomputable def noCal : Cal := fun _ _ _ => none
noncomputable def gdK (t : T) (j : Pth) (w : Bool) (y n : Ans) : Ans :=
  V.rec (fun s => S.rec (fun q => Bool.rec (Bool.rec y n w) (Bool.rec n y w) q) (fun _ _ => none) (fun _ _ => none) none (fun _ _ _ _ => none) none (fun _ _ => none) (fun _ _ => none) (fun _ _ _ _ => none) none (fun _ => none) (fun _ => none) none (fun _ => none) none (fun _ _ => none) s) (fun _ => none) (fun cs => List.rec n (fun _ _ _ => none) cs) none (gtV j t)
noncomputable def g_g (d : Option Pth) (op : J) (cal : Cal) (t : T) (h : Hp) (k : KT) : Ans := exJ op cal t h fun v h => putK d t v fun t => k t h
noncomputable def g_c (d : Option Pth) (op : J) (j : Pth) (w : Bool) (cal : Cal) (t : T) (h : Hp) (k : KT) : Ans := gdK t j w (g_g d op cal t h k) (putK d t vu fun t => k t h)
noncomputable def exG (g : GJ) : Cal → T → Hp → KT → Ans := GJ.rec (motive := fun _ => Cal → T → Hp → KT → Ans) g_g g_c g
noncomputable def lk_g (d : Option Pth) (op : J) (t : T) (h : Hp) (c : V → Ans) : Ans := exJ op noCal t h fun v _ => c v
noncomputable def lk_c (d : Option Pth) (op : J) (j : Pth) (w : Bool) (t : T) (h : Hp) (c : V → Ans) : Ans := gdK t j w (lk_g d op t h c) (c vu)
noncomputable def lk1 (g : GJ) : T → Hp → (V → Ans) → Ans := GJ.rec (motive := fun _ => T → Hp → (V → Ans) → Ans) lk_g lk_c g
noncomputable def GJ.d (g : GJ) : Option Pth := GJ.rec (fun d _ => d) (fun d _ _ _ => d) g
noncomputable def ck1 (g : GJ) (t : T) (h : Hp) (c : Unit → Ans) : Ans := lk1 g t h fun v => Option.rec (c ()) (fun p => onB (vEq v (gtV p t)) (c ()) none) g.d
noncomputable def ckK (l : List GJ) (t : T) (h : Hp) (c : Unit → Ans) : Ans := List.rec (c ()) (fun g _ ih => ck1 g t h fun _ => ih) l
noncomputable def x_lt (g : GJ) (cal : Cal) (t : T) (h : Hp) (k : KT) : Ans := exG g cal t h k
noncomputable def x_hv (g : GJ) (chk : List GJ) (cal : Cal) (t : T) (h : Hp) (k : KT) : Ans :=
  exG g cal t h fun t' h' => onB (Nat.ble h.n.n h'.n.n) (ckK chk t' h' fun _ => k t' h') none
noncomputable def exX (x : XJ) : Cal → T → Hp → KT → Ans := XJ.rec (motive := fun _ => Cal → T → Hp → KT → Ans) x_lt x_hv x
noncomputable def exL (l : List GJ) : Cal → T → Hp → KT → Ans :=
  List.rec (motive := fun _ => Cal → T → Hp → KT → Ans) (fun _ t h k => k t h) (fun g _ ih cal t h k => exG g cal t h fun t h => ih cal t h k) l
noncomputable def exXs (l : List XJ) : Cal → T → Hp → KT → Ans :=
  List.rec (motive := fun _ => Cal → T → Hp → KT → Ans) (fun _ t h k => k t h) (fun g _ ih cal t h k => exX g cal t h fun t h => ih cal t h k) l
abbrev MD := Cal → T → Hp → KT → KT → (Nat → KT) → Ans
noncomputable def d_skip (cal : Cal) (t : T) (h : Hp) (kn kr : KT) (kx : Nat → KT) : Ans := kn t h
noncomputable def d_reg (l : List GJ) (cal : Cal) (t : T) (h : Hp) (kn kr : KT) (kx : Nat → KT) : Ans := exL l cal t h kn
noncomputable def d_drw (l : List XJ) (cal : Cal) (t : T) (h : Hp) (kn kr : KT) (kx : Nat → KT) : Ans := exXs l cal t h kn
def upOf : GJ → Option (List Bool × O × O × O)
  | .g none (.up ks m k v) => some (ks, m, k, v)
  | _ => none
abbrev EV := List Bool × V × V
noncomputable def mpS (s : S) (c : Pth → Ans) : Ans := S.rec (fun _ => none) (fun _ _ => none) (fun _ _ => none) none (fun _ _ _ _ => none) none (fun _ _ => none) (fun _ _ => none) (fun _ _ _ _ => none) none (fun _ => none) c none (fun _ => none) none (fun _ _ => none) s
noncomputable def pL (r : Pth) (q : Pth) : Bool := Nat.blt q.n r.n
noncomputable def mlE (t : T) (r : Pth) (g : GJ) (c : EV → Ans) : Ans :=
  onO (upOf g) fun q => Prod.rec (fun ks q => Prod.rec (fun m q => Prod.rec (fun k v =>
    asS (ev t m) fun s => mpS s fun r' => onB (Nat.beq r'.n r.n) (onB (keyB ks (ev t k)) (onB (and ((ev t k).rk (pL r)) ((ev t v).rk (pL r))) (asC (ev t v) fun _ => c (ks, ev t k, ev t v)) none) none) none) q) q) q
noncomputable def mlL (t : T) (r : Pth) (l : List GJ) : (List EV → Ans) → Ans := List.rec (motive := fun _ => (List EV → Ans) → Ans) (fun c => c []) (fun g _ ih c => mlE t r g fun x => ih fun xs => c (x :: xs)) l
noncomputable def nB (o : Option Bool) : Bool := Option.rec false (fun b => Bool.not b) o
noncomputable def neK (x y : EV) : Bool := nB (eqK x.1 x.2.1 y.2.1)
noncomputable def dstB (l : List EV) : Bool := List.rec true (fun x l ih => and (allF (fun y => and (neK x y) (neK y x)) l) ih) l
noncomputable def entL (l : List EV) : List (V × V) := List.rec [] (fun x _ ih => x.2 :: ih) l
noncomputable def mlK (m : O) (es : List GJ) (t : T) (h : Hp) (c : Hp → Ans) : Ans :=
  asS (ev t m) fun s => mpS s fun r => mpK (h.gb r) fun e0 _ => List.rec (onB (Nat.blt r.n h.n.n) (mlL t r es fun l => onB (dstB l) (h.setK r (.ml (entL l)) c) none) none) (fun _ _ _ => none) e0
noncomputable def d_drm (l : List XJ) (m : O) (es : List GJ) (cal : Cal) (t : T) (h : Hp) (kn kr : KT) (kx : Nat → KT) : Ans := exXs l cal t h fun t h => mlK m es t h fun h => kn t h
noncomputable def d_seq (a b : DJ) (ia ib : MD) (cal : Cal) (t : T) (h : Hp) (kn kr : KT) (kx : Nat → KT) : Ans := ia cal t h (fun t h => ib cal t h kn kr kx) kr kx
noncomputable def d_cond (x : O) (a b : DJ) (ia ib : MD) (cal : Cal) (t : T) (h : Hp) (kn kr : KT) (kx : Nat → KT) : Ans :=
  asB (ev t x) fun q => Bool.rec (ib cal t h kn kr kx) (ia cal t h kn kr kx) q
noncomputable def d_block (id : Nat) (c : DJ) (ic : MD) (cal : Cal) (t : T) (h : Hp) (kn kr : KT) (kx : Nat → KT) : Ans :=
  ic cal t h kn kr fun j t h => Bool.rec (kx j t h) (kn t h) (Nat.beq j id)
noncomputable def fuelL : Nat := 1000000
noncomputable def loopK (f : KT → KT) (n : Nat) : KT := Nat.rec (motive := fun _ => KT) (fun _ _ => none) (fun _ X t h => f X t h) n
noncomputable def d_loop (c : DJ) (ic : MD) (cal : Cal) (t : T) (h : Hp) (kn kr : KT) (kx : Nat → KT) : Ans :=
  loopK (fun X t h => ic cal t h X kr kx) fuelL t h
noncomputable def d_exit (id : Nat) (cal : Cal) (t : T) (h : Hp) (kn kr : KT) (kx : Nat → KT) : Ans := kx id t h
noncomputable def d_ret (cal : Cal) (t : T) (h : Hp) (kn kr : KT) (kx : Nat → KT) : Ans := kr t h
noncomputable def lpK (b : B) (c : T → List Pth → DJ → DJ → Nat → Option (Option Nat) → Ans) : Ans :=
  B.rec none (fun _ => none) (fun _ => none) (fun _ _ _ => none) (fun _ _ _ _ => none) (fun _ _ => none) (fun _ => none) (fun _ _ _ _ => none) c none (fun _ => none) (fun _ => none) b
noncomputable def fnB (s : S) : Bool := S.rec (fun _ => false) (fun _ _ => false) (fun _ _ => false) false (fun _ _ _ _ => false) false (fun _ _ => false) (fun _ _ => true) (fun _ _ _ _ => true) false (fun _ => false) (fun _ => false) false (fun _ => false) false (fun _ _ => false) s
noncomputable def rfK (g : O) (ps : List Pth) (asg body : DJ) (cal : Cal) (t : T) (h : Hp) (kn kr : KT) (kx : Nat → KT) : Ans :=
  h.pushK (.lp t ps asg body 0 none) fun h' => asS (ev t g) fun s => onB (fnB s) (onO (cal s [.s (.yl h.n)] h') fun r => Prod.rec (fun _ h2 =>
    lpK (h2.gb h.n) fun t' ps' asg' body' st pend => onB (Bool.not (Nat.beq st 1)) (h2.setK h.n .dd fun h3 => Option.rec (kn t h3) (fun e => Option.rec (kr t h3) (fun id => kx id t h3) e) pend) none) r) none
noncomputable def d_rf (g : O) (ps : List Pth) (asg body : DJ) (ia ib : MD) (cal : Cal) (t : T) (h : Hp) (kn kr : KT) (kx : Nat → KT) : Ans :=
  h.pushK .dq fun h' => Hp.rec (fun b n er eq fz df ch => rfK g ps asg body cal t (Hp.mk b n er eq fz (.mk h.n :: df) ch) kn kr kx) h'
noncomputable def exD (d : DJ) : MD := DJ.rec (motive := fun _ => MD) d_skip d_reg d_drw d_seq d_cond d_block d_loop d_exit d_ret d_rf d_drm d
noncomputable def fdef : FJ := ⟨false, .exit 0, []⟩
noncomputable def gtF (p : Pth) : Tr FJ → FJ := Pth.rec (motive := fun _ => Tr FJ → FJ) (fun i j t => N8.g j (N8.g i t.s)) (fun i j k t => N8.g k (N8.g j (N8.g i t.t))) (fun n t => lkF fdef n t.o) p
def tE : T := ⟨e8 (e8 vu), e8 (e8 (e8 vu)), []⟩
noncomputable def iniK (l : List V) : Pth → T → (T → Ans) → Ans :=
  List.rec (motive := fun _ => Pth → T → (T → Ans) → Ans) (fun _ t c => c t) (fun v _ ih p t c => stK vu p t v fun t => p.succK fun p => ih p t c) l
noncomputable def rvK (t : T) (h : Hp) (r : RV) (c : V → Ans) : Ans :=
  RV.rec (fun p => c (gtV p t)) (fun a n => asP (gtV a t) fun r o => Option.rec (ld1 (h.gb r) o fun s => c (.s s)) (fun n => ldN (h.gb r) o n fun l => c (.agg l)) n) r
noncomputable def rvsK (t : T) (h : Hp) (l : List RV) : (List V → Ans) → Ans :=
  List.rec (motive := fun _ => (List V → Ans) → Ans) (fun c => c []) (fun r _ ih c => rvK t h r fun v => ih fun vs => c (v :: vs)) l
noncomputable def vcsK (l : List V) : (List C → Ans) → Ans :=
  List.rec (motive := fun _ => (List C → Ans) → Ans) (fun c => c []) (fun v _ ih c => v.toC fun x => ih fun xs => c (x :: xs)) l
noncomputable def resK (l : List V) (c : V → Ans) : Ans := List.rec (c vu) (fun v l' _ => List.rec (c v) (fun _ _ _ => vcsK l fun cs => c (.tup cs)) l') l
noncomputable def dqK (b : B) (c : Ans) : Ans := B.rec none (fun _ => none) (fun _ => none) (fun _ _ _ => none) (fun _ _ _ _ => none) (fun _ _ => none) (fun _ => none) (fun _ _ _ _ => none) (fun _ _ _ _ _ _ => none) c (fun _ => none) (fun _ => none) b
noncomputable def runD (prog : Tr FJ) (cal : Cal) (f : Pth) (args : List V) (h : Hp) : Ans :=
  FJ.rec (fun _ body res => iniK args .z tE fun t => Hp.rec (fun b n er eq fz df ch =>
    let kr : KT := (fun t h => Hp.rec (fun b' n' er' eq' fz' df' ch' => List.rec (rvsK t h res fun vs => resK vs fun v => some (v, Hp.mk b' n' er' eq' fz df ch)) (fun _ _ _ => none) df') h)
    exD body cal t (Hp.mk b n er eq fz [] false) kr kr fun _ _ _ => none) h) (gtF f prog)
noncomputable def dfK (rd : Pth → List V → Hp → Ans) (l : List DF) : Hp → (Hp → Ans) → Ans :=
  List.rec (motive := fun _ => Hp → (Hp → Ans) → Ans) (fun h c => c h)
    (fun d _ ih h c => DF.rec (fun r => dqK (h.gb r) (h.setK r .dd fun h => ih h c)) (fun f args => onO (rd f args h) fun r => Prod.rec (fun _ h => ih h c) r) d) l
noncomputable def finK (n : Pth) (fz : Nat) (df : List DF) (ch : Bool) (v : V) (h : Hp) : Ans :=
  fN n.n fun m => Hp.rec (fun b n' er eq _ _ _ => Bool.rec (some (v, Hp.mk b n' er eq fz df ch)) (some (v, Hp.mk b n er eq fz df ch)) (and (v.ok m) (or (Nat.ble m er) (Nat.blt eq m)))) h
noncomputable def runF (prog : Tr FJ) (cal : Cal) (f : Pth) (args : List V) (h : Hp) : Ans :=
  FJ.rec (fun fr body res => iniK args .z tE fun t => Hp.rec (fun b n er eq fz df ch =>
    Bool.rec (let kr : KT := (fun t h => Hp.rec (fun b' n' er' eq' fz' df' ch' => dfK (runD prog cal) df' (Hp.mk b' n' er' eq' fz' [] ch') fun h => rvsK t h res fun vs => resK vs fun v => finK n fz df ch v h) h)
      exD body cal t (Hp.mk b n er eq fz [] false) kr kr fun _ _ _ => none) (fN n.n fun m =>
        let kr : KT := (fun t h => Hp.rec (fun b' n' er' eq' fz' df' ch' => List.rec (rvsK t h res fun vs => resK vs fun v => onB (v.ok m) (some (v, h)) none) (fun _ _ _ => none) df') h)
        onO (exD body cal t (Hp.mk b n er eq m [] true) kr kr fun _ _ _ => none) fun r => Prod.rec (fun v h => Hp.rec (fun b _ er eq _ _ _ => onB (or (Nat.ble m er) (Nat.blt eq m)) (some (v, Hp.mk b n er eq fz df ch)) none) h) r) fr) h) (gtF f prog)
noncomputable def bindK (ps : List Pth) : List V → T → (T → Ans) → Ans :=
  List.rec (motive := fun _ => List V → T → (T → Ans) → Ans) (fun vs t c => List.rec (c t) (fun _ _ _ => none) vs) (fun p _ ih vs t c => List.rec none (fun v vs _ => stK vu p t v fun t => ih vs t c) vs) ps
noncomputable def noK : KT := fun _ _ => none
noncomputable def rndE (n : Pth) (fz : Nat) (df : List DF) (ch : Bool) (r : Pth) (st : Nat) (e : Option (Option Nat)) (q : Bool) (h : Hp) : Ans :=
  lpK (h.gb r) fun t ps asg body _ _ => h.setK r (.lp t ps asg body st e) fun h => Hp.rec (fun b' n' er' eq' fz' df' ch' => finK n fz df ch (.s (.b q)) (Hp.mk b' n' er' eq' fz' [] ch')) h
noncomputable def rndF (cal : Cal) (r : Pth) (args : List V) (h : Hp) : Ans :=
  Hp.rec (fun b n er eq fz df ch => lpK (gtB r b) fun t ps asg body st pend => onB (Nat.beq st 0)
    (bindK ps args t fun t1 => exD asg cal t1 (Hp.mk b n er eq fz [] false)
      (fun t2 h2 => lpK (h2.gb r) fun t ps asg body' st pend => onB (Nat.beq st 0) (h2.setK r (.lp t ps asg body' 1 pend) fun h2 =>
        exD body cal t2 h2 (fun _ h => rndE n fz df ch r 0 none true h) (fun _ h => rndE n fz df ch r 2 (some none) false h) fun id _ h => rndE n fz df ch r 2 (some (some id)) false h) none) noK fun _ => noK) none) h
noncomputable def capV (cs : List (Pth × Nat)) : List V := List.rec [] (fun x _ ih => Prod.rec (fun r o => .s (.p r o) :: ih) x) cs
noncomputable def apV (a b : List V) : List V := List.rec b (fun x _ ih => x :: ih) a
noncomputable def calS (prog : Tr FJ) (cal : Cal) (s : S) (args : List V) (h : Hp) : Ans :=
  S.rec (fun _ => none) (fun _ _ => none) (fun _ _ => none) none (fun _ _ _ _ => none) none (fun _ _ => none) (fun f cs => runF prog cal f (List.rec args (fun c cs _ => apV args (capV (c :: cs))) cs) h) (fun f q r o => runF prog cal f (Bool.rec (.s (.p r o)) (.agg [.p r o]) q :: args) h) none (fun _ => none) (fun _ => none) none (fun r => rndF cal r args h) none (fun _ _ => none) s
noncomputable def calN (prog : Tr FJ) (n : Nat) : Cal := Nat.rec (motive := fun _ => Cal) (fun _ _ _ => none) (fun _ ih s args h => calS prog ih s args h) n
structure Lay where
  g : Option (Nat × Pth)
def ofS : Value → Option S
  | .bool b => some (.b b)
  | .int k n => if n < 18446744073709551616 then some (.i k n) else none
  | .pointer none => some .np
  | .slice none 0 0 => some .ns
  | .nilFunc => some .nf
  | .map none => some .nm
  | .string s => some (.st (s.data.toList.map UInt8.toNat))
  | _ => none
def ofSs : List Value → Option (List S)
  | [] => some []
  | v :: vs => match ofS v, ofSs vs with
    | some s, some l => some (s :: l)
    | _, _ => none
def ofV : Value → Option V
  | .agg cs => (ofSs cs.toList).map V.agg
  | v => (ofS v).map V.s
section
variable (Y : Lay) (P : Program) (N : Nat)
def compX : Operand → Option O
  | .tmp t => some (.t (Pth.of t))
  | .const v => (ofV v).map O.k
  | .func f => some (.k (.s (.fn (Pth.of f) [])))
  | .global g => match Y.g with
    | some (g', p) => if g = g' then some (.k (.s (.p p 0))) else none
    | none => none
def compXs : List Operand → Option (List O)
  | [] => some []
  | x :: xs => match compX Y x, compXs xs with
    | some y, some l => some (y :: l)
    | _, _ => none
def zeroOf (t : TypeId) : Option (List S) :=
  match P.info? t with
  | some i => match i.zero with
    | some z => match ofSs z.cells.toList with
      | some l => if l.length = i.size then some l else none
      | none => none
    | none => none
  | none => none
def shapeOf (t : TypeId) : Option (Option Nat) :=
  match P.info? t, P.underlying t with
  | some i, some (.struct _) => some (some i.size)
  | some i, some (.array _ _) => some (some i.size)
  | some _, some _ => some none
  | _, _ => none
def flatFs (g : TypeId → Option (List Bool)) : List Field → Nat → Option (List Bool)
  | [], _ => some []
  | f :: fs, n => if f.name ≠ "_" ∧ f.offset = n then (match g f.type with
    | some m => match flatFs g fs (n + m.length) with
      | some l => some (m ++ l)
      | none => none
    | none => none) else none
def rep (m : List Bool) : Nat → List Bool
  | 0 => []
  | n + 1 => m ++ rep m n
def flat : Nat → TypeId → Option (List Bool)
  | 0, _ => none
  | d + 1, t => match P.info? t, P.underlying t with
    | some i, some (.int _) => if i.size = 1 then some [true] else none
    | some i, some .bool => if i.size = 1 then some [false] else none
    | some i, some (.struct fs) =>
      if P.stoodInHeld t then none else
      match flatFs (flat d) fs.toList 0 with
      | some l => if i.size = l.length then some l else none
      | none => none
    | some i, some (.array n e) => match flat d e with
      | some m => if i.size = (rep m n).length then some (rep m n) else none
      | none => none
    | _, _ => none
def partsOf (place : Nat → Option (Nat × Nat)) : List (Nat × Operand) → Option (List (Nat × Nat × O))
  | [] => some []
  | (i, x) :: rest => match place i, compX Y x, partsOf place rest with
    | some (off, size), some y, some l => some ((off, size, y) :: l)
    | _, _, _ => none
def fieldPlaces (fs : List Field) (i : Nat) : Option (Nat × Nat) :=
  match fs[i]? with
  | some f => (P.info? f.type).map fun t => (f.offset, t.size)
  | none => none
def allSized (fs : List Field) : Bool := fs.all fun f => (P.info? f.type).isSome
def nilK : Operand → Option Nat
  | .const (.pointer none) => some 0
  | .const (.slice none 0 0) => some 1
  | .const (.map none) => some 2
  | .const .nilFunc => some 3
  | _ => none
def compB : Option Operand → Option (Option O)
  | none => some none
  | some y => (compX Y y).map some
def zeroV (t : TypeId) : Option V :=
  match P.info? t with
  | some i => match i.zero with
    | some z => ofV z
    | none => none
  | none => none
def keyKs (t : TypeId) : Option (List Bool) := match P.underlying t with
  | some (.int _) => some []
  | some .string => some [true]
  | some (.struct _) | some (.array _ _) => match flat P 20 t with
    | some l => if P.eqGuardType P.depth t || Nat.ble l.length 1 then none else some l
    | none => none
  | _ => none
def compE (q : Bool) (t : TypeId) (y : Operand) (x' y' : O) : Option J :=
  match P.underlying t with
  | some (.struct _) | some (.array _ _) => match flat P 20 t with
    | some n => if P.eqGuardType P.depth t then none else some (.eqa q n x' y')
    | none => none
  | some (.pointer _) => if nilK y = some 0 then some (.eqn 0 q x') else none
  | some (.slice _) => if nilK y = some 1 then some (.eqn 1 q x') else none
  | some (.map _ _) => if nilK y = some 2 then some (.eqn 2 q x') else none
  | some (.func _ _ _) => if nilK y = some 3 then some (.eqn 3 q x') else none
  | some .bool => some (.eqb q x' y')
  | some (.int _) => some (.bin (if q then .neq else .eql) x' y')
  | _ => none
def compI (o : Oper) : Option J :=
  match o.op with
  | .move x | .assign x => (compX Y x).map J.mv
  | .pick c a b => match compX Y c, compX Y a, compX Y b with
    | some c, some a, some b => some (.pick c a b)
    | _, _, _ => none
  | .alloc t => (zeroOf P t).map J.new
  | .box _ x => (compX Y x).map J.box
  | .build t parts => match zeroOf P t, P.underlying t with
    | some z, some (.struct fs) => if allSized P fs.toList then (partsOf Y (fieldPlaces P fs.toList) parts.toList).map (J.build z) else none
    | some z, some (.array _ e) => match P.info? e with
      | some i => (partsOf Y (fun j => some (j * i.size, i.size)) parts.toList).map (J.build z)
      | none => none
    | _, _ => none
  | .buildSlice t n parts => match P.underlying t with
    | some (.slice e) => match P.info? e, zeroOf P e with
      | some i, some z => if n * i.size ≤ 2 ^ 24 ∧ i.size ≠ 0 then (partsOf Y (fun j => some (j * i.size, i.size)) parts.toList).map (J.bsl n (zerosL z n)) else none
      | _, _ => none
    | _ => none
  | .load t a => match compX Y a, shapeOf P t with
    | some a, some none => some (.ld a)
    | some a, some (some n) => some (.ldn a n)
    | _, _ => none
  | .store t a x => match compX Y a, compX Y x, P.info? t with
    | some a, some x, some i => some (.st a x i.size)
    | _, _, _ => none
  | .nilCheck x => (compX Y x).map J.nil
  | .binOp op t x y _ => match compX Y x, compX Y y with
    | some x', some y' =>
      match op with
      | .eql => compE P false t y x' y'
      | .neq => compE P true t y x' y'
      | _ => some (.bin op x' y')
    | _, _ => none
  | .unOp op _ x => (compX Y x).map (J.un op)
  | .convert src dst x => match P.underlying src, P.underlying dst, compX Y x with
    | some _, some (.int k), some x => some (.conv k x)
    | _, _, _ => none
  | .makeFunc (.func f) first caps => match first.toList, caps.toList with
    | [], l => (compXs Y l).map (J.mkf (Pth.of f))
    | [x], [] => (compX Y x).map (J.mkm (Pth.of f))
    | _, _ => none
  | .makeSlice t n c => match P.underlying t, compX Y n, compX Y c with
    | some (.slice e), some n, some c => match P.info? e, zeroOf P e with
      | some i, some z => if i.size = 0 then none else some (.mks i.size i.bytes z n c)
      | _, _ => none
    | _, _, _ => none
  | .slice t x lo hi mx => if mx.isSome ∧ hi.isNone then none else match compX Y x, compB Y lo, compB Y hi, compB Y mx with
      | some x, some lo, some hi, some mx => match P.underlying t with
        | some (.slice e) => (P.info? e).map fun i => .slc none i.size x lo hi mx
        | some (.array n e) => if n < G then (P.info? e).map fun i => .slc (some n) i.size x lo hi mx else none
        | _ => none
      | _, _, _, _ => none
  | .fieldAddr s x f => match P.underlying s, compX Y x with
    | some (.struct fs), some x => match fs[f]? with
      | some f => match P.info? f.type with
        | some i => if i.size = 0 then none else some (.fa x f.offset)
        | none => none
      | none => none
    | _, _ => none
  | .field s x f => match P.underlying s, compX Y x with
    | some (.struct fs), some x => match fs[f]? with
      | some f => (shapeOf P f.type).map fun n => .fld x f.offset n
      | none => none
    | _, _ => none
  | .indexAddr t x i => match P.underlying t, compX Y x, compX Y i with
    | some (.array n e), some x, some i => (P.info? e).map fun k => .ia (some n) k.size x i
    | some (.slice e), some x, some i => (P.info? e).map fun k => .ia none k.size x i
    | _, _, _ => none
  | .index t x i => match P.underlying t, compX Y x, compX Y i with
    | some (.array n e), some x, some i => match P.info? e, shapeOf P e with
      | some k, some m => some (.ix n k.size m x i)
      | _, _ => none
    | some .string, some x, some i => some (.ixs x i)
    | _, _, _ => none
  | .extract x j => (compX Y x).map fun x => .ext x j
  | .call c => match c.callee with
    | .value (.func f) => match P.funcs[f]? with
      | some fn => if fn.body.isSome ∧ (fn.name == "runtime.NumGoroutine") = false then (compXs Y c.args.toList).map (J.call (Pth.of f)) else none
      | none => none
    | .value (.tmp t) => (compXs Y c.args.toList).map (J.callv (.t (Pth.of t)))
    | .builtin .len => match c.args.toList, c.argTypes.toList with
      | [x], [t] => match P.underlying t with
        | some (.slice _) => (compX Y x).map J.len
        | some (.map _ _) => (compX Y x).map J.lenm
        | _ => none
      | _, _ => none
    | .builtin .append => match c.args.toList, c.argTypes.toList with
      | [x, y], [t, u] => match P.underlying t, P.underlying u with
        | some (.slice e), some (.slice _) => match P.info? e, zeroOf P e, compX Y x, compX Y y with
          | some i, some _, some x, some y => if i.bytes = 0 then none else some (.app i.size i.bytes x y)
          | _, _, _, _ => none
        | _, _ => none
      | _, _ => none
    | .builtin .copy => match c.args.toList, c.argTypes.toList with
      | [x, y], [t, _] => match P.underlying t with
        | some (.slice e) => match P.info? e, compX Y x, compX Y y with
          | some i, some x, some y => some (.cpy i.size x y)
          | _, _, _ => none
        | _ => none
      | _, _ => none
    | .builtin .min => match c.args.toList with
      | [x, y] => match compX Y x, compX Y y with
        | some x, some y => some (.mx false x y)
        | _, _ => none
      | _ => none
    | .builtin .max => match c.args.toList with
      | [x, y] => match compX Y x, compX Y y with
        | some x, some y => some (.mx true x y)
        | _, _ => none
      | _ => none
    | _ => none
  | .sliceToArrayPointer t x => match P.underlying t with
    | some (.array n _) => (compX Y x).map (J.arr n)
    | _ => none
  | .makeMap t r => match r with
    | none => some .mkmap
    | some _ => none
  | .lookup t m key ok => match P.underlying t, compX Y m, compX Y key with
    | some (.map kt et), some m, some key => match zeroV P et with
      | some z => (keyKs P kt).map fun ks => .lk ok ks z m key
      | none => none
    | _, _, _ => none
  | .insert t m key v | .mapUpdate t m key v => match P.underlying t, compX Y m, compX Y key, compX Y v with
    | some (.map kt _), some m, some key, some v => (keyKs P kt).map fun ks => .up ks m key v
    | _, _, _, _ => none
  | .range t x => match P.underlying t, compX Y x with
    | some (.map _ _), some x => some (.rng x)
    | _, _ => none
  | .next x false => (compX Y x).map J.nxt
  | .entry x => (compX Y x).map J.ent
  | .defer c => match c.callee with
    | .value (.func f) => (compXs Y c.args.toList).map (J.dfr (Pth.of f))
    | _ => none
  | _ => none
where zerosL (z : List S) : Nat → List S
  | 0 => []
  | n + 1 => z ++ zerosL z n
def compG (ops : Array Oper) (o : Oper) : Option GJ :=
  match compI Y P o with
  | some i => if (match o.dst with | some d => decide (d < N) | none => true) then (match o.guard with
    | none => some (.g (o.dst.map Pth.of) i)
    | some (j, want) => match ops[j]? with
      | some oj => match oj.dst with
        | some d => some (.c (o.dst.map Pth.of) i (Pth.of d) want)
        | none => none
      | none => none) else none
  | none => none
def compGs (ops : Array Oper) : List Oper → Option (List GJ)
  | [] => some []
  | o :: os => match compG Y P N ops o, compGs ops os with
    | some g, some l => some (g :: l)
    | _, _ => none
def J.kind : J → Nat
  | .mv _ | .pick .. | .build .. | .nil _ | .bin .. | .eqb .. | .eqa .. | .eqn .. | .un .. | .conv .. | .mkf .. | .mkm .. | .slc .. | .fa .. | .fld .. | .ia .. | .ix .. | .ixs .. | .ext .. | .len _ | .mx .. | .arr .. => 0
  | .ld _ | .ldn .. | .lk .. | .lenm _ | .ent _ => 1
  | .new _ | .box _ | .bsl .. | .mks .. | .mkmap => 2
  | _ => 3
def GJ.kind : GJ → Nat
  | .g _ op => op.kind
  | .c _ op _ _ => if op.kind = 2 then 3 else op.kind
def takeX (ops : Array Oper) (l : List GJ) : Nat → Array Bool → List Nat
  | 0, _ => []
  | f + 1, listed =>
    let rd := Region.ready .any ops listed
    let kd (n : Nat) (k : Nat) : Bool := match l[k]? with
      | some g => g.kind = n
      | none => false
    match rd.find? fun k => kd 0 k || kd 1 k with
    | some k => k :: takeX ops l f (listed.setIfInBounds k true)
    | none => match rd.find? (kd 3) with
      | some k => k :: takeX ops l f (listed.setIfInBounds k true)
      | none => match rd with
        | k :: _ => k :: takeX ops l f (listed.setIfInBounds k true)
        | [] => []
def predsOf (ops : Array Oper) (i : Nat) : List Nat := match ops[i]? with
  | some o => (o.after.toList.filter fun e => Region.binds .any e).map (·.on)
  | none => []
def addAll : List Nat → List Nat → List Nat
  | [], s => s
  | x :: xs, s => addAll xs (if s.contains x then s else x :: s)
def tblGet (i : Nat) : List (Nat × List Nat) → List Nat
  | [] => []
  | (k, s) :: l => if k = i then s else tblGet i l
def ancOf (ops : Array Oper) (tbl : List (Nat × List Nat)) (i : Nat) : List Nat := if 20 < (predsOf ops i).length then predsOf ops i else (predsOf ops i).foldl (fun s k => addAll (k :: tblGet k tbl) s) []
def kindOf (gl : List GJ) (k : Nat) : Nat := match gl[k]? with
  | some g => g.kind
  | none => 3
def J.plain : J → Bool
  | .nxt _ | .dfr .. => false
  | _ => true
def GJ.plain : GJ → Bool
  | .g _ op => op.plain
  | .c _ op _ _ => op.plain
def segAl (gl : List GJ) (done : List Nat) : Bool := done.foldl (fun b k => if kindOf gl k = 3 then false else if kindOf gl k = 2 then true else b) false
def isIn (o : Oper) : Bool := match o.op with
  | .insert .. => true
  | _ => false
def insB (ops : Array Oper) (i : Nat) : Bool := match ops[i]? with
  | some o => isIn o
  | none => false
def okX (ops : Array Oper) (gl : List GJ) (done : List Nat) (i : Nat) (o : Oper) (g : GJ) (s : List Nat) : Bool :=
  g.plain && !done.contains i && ((predsOf ops i).all fun p => done.contains p || (insB ops p && (predsOf ops p).all done.contains)) &&
  ((List.range ops.size).all fun k => match (ops[k]?).bind (·.dst) with
    | some d => (!(o.looksAt ops).contains d || (s.contains k && done.contains k) || (g.kind != 1 && !done.contains k)) && (k == i || o.dst != some d)
    | none => true) &&
  (match o.dst with
    | some d => done.all fun k => s.contains k || !(match ops[k]? with
      | some o' => (o'.looksAt ops).contains d
      | none => false)
    | none => true) &&
  (done.all fun k => s.contains k || !((g.kind == 3 && (kindOf gl k == 3 || kindOf gl k == 2)) || (g.kind == 1 && kindOf gl k == 3))) &&
  !(g.kind == 1 && segAl gl done)
def chkOf (gl : List GJ) (s : List Nat) : List Nat → List GJ
  | [] => []
  | k :: ks => match gl[k]? with
    | some g => if g.kind = 1 ∧ s.contains k = false then g :: chkOf gl s ks else chkOf gl s ks
    | none => chkOf gl s ks
def mkX (ops : Array Oper) (gl : List GJ) : List (Nat × List Nat) → List Nat → Option (List XJ)
  | _, [] => some []
  | tbl, i :: rest => match ops[i]?, gl[i]? with
    | some o, some g => if okX ops gl (tbl.map (·.1)) i o g (ancOf ops tbl i) then
        match mkX ops gl (tbl ++ [(i, ancOf ops tbl i)]) rest with
        | some l => some ((if g.kind = 3 then .hv g (chkOf gl (ancOf ops tbl i) (tbl.map (·.1))) else .lt g) :: l)
        | none => none
      else none
    | _, _ => none
def dlOf (ops : Array Oper) : List (Nat × Nat) := (List.range ops.size).filterMap fun k => ((ops[k]?).bind (·.dst)).map fun d => (k, d)
def infOf (ops : Array Oper) (gl : List GJ) (k : Nat) : Nat × List Nat × Nat := (k, (match ops[k]? with
  | some o => o.looksAt ops
  | none => []), kindOf gl k)
def okX2 (ops : Array Oper) (gl : List GJ) (dl : List (Nat × Nat)) (done : List Nat) (inf : List (Nat × List Nat × Nat)) (i : Nat) (o : Oper) (g : GJ) (s lo : List Nat) : Bool :=
  g.plain && !done.contains i && ((predsOf ops i).all fun p => done.contains p || (insB ops p && (predsOf ops p).all done.contains)) &&
  (dl.all fun x => (!lo.contains x.2 || (s.contains x.1 && done.contains x.1) || (g.kind != 1 && !done.contains x.1)) && (x.1 == i || o.dst != some x.2)) &&
  (match o.dst with
    | some d => inf.all fun x => !x.2.1.contains d || s.contains x.1
    | none => true) &&
  (inf.all fun x => !((g.kind == 3 && (x.2.2 == 3 || x.2.2 == 2)) || (g.kind == 1 && x.2.2 == 3)) || s.contains x.1) &&
  !(g.kind == 1 && segAl gl done)
def mkX2 (ops : Array Oper) (gl : List GJ) (dl : List (Nat × Nat)) : List (Nat × List Nat) → List (Nat × List Nat × Nat) → List Nat → Option (List XJ)
  | _, _, [] => some []
  | tbl, inf, i :: rest => match ops[i]?, gl[i]? with
    | some o, some g => if okX2 ops gl dl (tbl.map (·.1)) inf i o g (ancOf ops tbl i) (o.looksAt ops) then
        match mkX2 ops gl dl (tbl ++ [(i, ancOf ops tbl i)]) (inf ++ [infOf ops gl i]) rest with
        | some l => some ((if g.kind = 3 then .hv g (chkOf gl (ancOf ops tbl i) (tbl.map (·.1))) else .lt g) :: l)
        | none => none
      else none
    | _, _ => none
def compDr0 (ops : Array Oper) (gl : List GJ) : Option DJ :=
  let ord := takeX ops gl ops.size (Array.replicate ops.size false)
  if (List.range ops.size).all ord.contains then (mkX ops gl [] ord).map DJ.drw else none
def isMk (o : Oper) : Bool := match o.op with
  | .makeMap _ none => true
  | _ => false
def okIn (ops : Array Oper) (gl : List GJ) (im dm i : Nat) : Bool := match ops[i]?, gl[i]? with
  | some o, some (.g none (.up _ (.t pm) _ _)) => o.dst == none && o.guard == none && pm == Pth.of dm && (predsOf ops i).contains im &&
    (o.op.operands.toList.all fun x => match x with
      | .tmp p => (predsOf ops i).any fun k => (ops[k]?).bind (·.dst) == some p
      | _ => true) && (predsOf ops i).all fun p => decide (p < ops.size) && !insB ops p
  | _, _ => false
def mkAt (ops : Array Oper) (gl : List GJ) (im dm : Nat) : Bool := match ops[im]?, gl[im]? with
  | some o, some (.g (some d) .mkmap) => isMk o && o.dst == some dm && d == Pth.of dm
  | _, _ => false
def ordM (ops : Array Oper) (gl : List GJ) (im : Nat) : List Nat :=
  let l := (List.range ops.size).filter fun i => !insB ops i && i != im && !(predsOf ops i).contains im
  (l.filter fun i => kindOf gl i == 1 && (predsOf ops i).isEmpty) ++ (l.filter fun i => !(kindOf gl i == 1 && (predsOf ops i).isEmpty)) ++ im :: ((List.range ops.size).filter fun i => !insB ops i && i != im && (predsOf ops i).contains im)
def compDm (ops : Array Oper) (gl : List GJ) (im dm : Nat) : Option DJ :=
  let il := (List.range ops.size).filter (insB ops)
  let ord := ordM ops gl im
  if mkAt ops gl im dm && (List.range ops.size).all (fun i => insB ops i || ord.contains i) && ord.all (fun i => !insB ops i) && il.all (okIn ops gl im dm) && ((ord.dropWhile (· != im)).drop 1).all (fun i => kindOf gl i == 0) then
    (mkX2 ops gl (dlOf ops) [] [] ord).map fun l => DJ.drm l (.t (Pth.of dm)) (il.filterMap fun i => gl[i]?)
  else none
def compDr (ops : Array Oper) (gl : List GJ) : Option DJ := match ops.toList.findIdx? isIn with
  | none => compDr0 ops gl
  | some _ => match ops.toList.findIdx? isMk with
    | some im => match (ops[im]?).bind (·.dst) with
      | some dm => compDm ops gl im dm
      | none => none
    | none => none
def GJ.nd : GJ → Bool
  | .g _ (.dfr ..) => false
  | .c _ (.dfr ..) _ _ => false
  | _ => true
def XJ.nd : XJ → Bool
  | .lt g => g.nd
  | .hv g _ => g.nd
def DJ.smp : DJ → Bool
  | .reg l => l.all GJ.nd
  | .drw l => l.all XJ.nd
  | .drm _ _ _ => false
  | .seq a b => a.smp && b.smp
  | .cond _ a b => a.smp && b.smp
  | .block id c => decide (id < 1000000) && c.smp
  | .loop c => c.smp
  | .exit id => decide (id < 1000000)
  | .rf .. => false
  | _ => true
def labelsOf : Code → List Nat
  | .seq a b => labelsOf a ++ labelsOf b
  | .label l => [l]
  | _ => []
def goId (l : Nat) : Nat := 1000000 + 2 * l
def outId (l : Nat) : Nat := 1000001 + 2 * l
mutual
def compC : Code → Option DJ
  | .skip => some .skip
  | .region _ ops false => (compGs Y P N ops ops.toList).map DJ.reg
  | .region _ ops true => match compGs Y P N ops ops.toList with
    | some l => compDr ops l
    | none => none
  | .seq a b => match compC a, compC b with
    | some a, some b => some (.seq a b)
    | _, _ => none
  | .cond c a b => match compX Y c, compC a, compC b with
    | some c, some a, some b => some (.cond c a b)
    | _, _, _ => none
  | .block id c => if id < 1000000 then (compC c).map (DJ.block id) else none
  | .loop c => (compC c).map DJ.loop
  | .exit id => if id < 1000000 then some (.exit id) else none
  | .ret => some .ret
  | .label _ => some .skip
  | .goto l => some (.exit (goId l))
  | .scope c => match labelsOf c with
    | [] => compC c
    | [l] => match compC c, compT l c with
      | some d, some r => some (.block (outId l) (.seq (.block (goId l) (.seq d (.exit (outId l)))) (.loop (.block (goId l) (.seq r (.exit (outId l)))))))
      | _, _ => none
    | _ => none
  | .rangeFunc g ps a b => match compX Y g, compC a, compC b with
    | some g, some a, some b => if a.smp && b.smp && (ps.toList.all fun p => decide (p < N)) then some (.rf g (ps.toList.map Pth.of) a b) else none
    | _, _, _ => none
  | _ => none
def compT (l : Nat) : Code → Option DJ
  | .seq a b => match findLabel a l with
    | some _ => match compT l a, compC b with
      | some r, some d => some (.seq r d)
      | _, _ => none
    | none => compT l b
  | .label l' => if l' = l then some .skip else none
  | _ => none
end
def compR : List ResultVar → Option (List RV)
  | [] => some []
  | .tmp t :: rs => (compR rs).map (RV.t (Pth.of t) :: ·)
  | .cell a t :: rs => match shapeOf P t, compR rs with
    | some n, some l => some (.c (Pth.of a) n :: l)
    | _, _ => none
def hasN : DJ → Bool
  | .reg l => l.any fun g => match g with
    | .g _ (.nxt _) => true
    | .c _ (.nxt _) _ _ => true
    | _ => false
  | .seq a b | .cond _ a b | .rf _ _ a b => hasN a || hasN b
  | .block _ c | .loop c => hasN c
  | _ => false
def compF (F : Func) : Option FJ :=
  match F.body with
  | some c => match compC Y P F.ntmps c, compR P F.results.toList with
    | some d, some r => some ⟨hasN d, d, r⟩
    | _, _ => none
  | none => none
end
end Go.E
