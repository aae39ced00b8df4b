/- A part of the proof of the claim that the last text of this folder states. -/
import Derived.Test.YtebgbhgehnpahaaGreatDoorS02
namespace Go.E
set_option linter.all false
abbrev RES := V × Hp
abbrev Ans := Option RES
abbrev Cal := S → List V → Hp → Ans
abbrev KV := V → Hp → Ans
abbrev KT := T → Hp → Ans
noncomputable def natsB (a : List Nat) : List Nat → Bool :=
  List.rec (motive := fun _ => List Nat → Bool) (fun b => List.rec true (fun _ _ _ => false) b) (fun x _ ih b => List.rec false (fun y b _ => and (Nat.beq x y) (ih b)) b) a
noncomputable def eqS1 (a b : S) : Option Bool :=
  S.rec (fun x => S.rec (fun y => some (Bool.rec (Bool.not y) y x)) (fun _ _ => none) (fun _ _ => none) none (fun _ _ _ _ => none) none (fun _ _ => none) (fun _ _ => none) (fun _ _ _ _ => none) none (fun _ => none) (fun _ => none) none (fun _ => none) none (fun _ _ => none) b) (fun k x => S.rec (fun _ => none) (fun k' y => onB (and (kEq k k') (and (reB x) (reB y))) (some (eqF x y)) (syB .eql k k' x y)) (fun _ _ => none) none (fun _ _ _ _ => none) none (fun _ _ => none) (fun _ _ => none) (fun _ _ _ _ => none) none (fun _ => none) (fun _ => none) none (fun _ => none) none (fun _ _ => none) b) (fun _ _ => none) none (fun _ _ _ _ => none) none (fun _ _ => none) (fun _ _ => none) (fun _ _ _ _ => none) none (fun _ => none) (fun _ => none) none (fun _ => none) none (fun _ _ => none) a
noncomputable def eqSs (a : List S) : List S → Option Bool :=
  List.rec (motive := fun _ => List S → Option Bool) (fun b => List.rec (some true) (fun _ _ _ => none) b)
    (fun x _ ih b => List.rec none (fun y b _ => onO (eqS1 x y) fun p => onO (ih b) fun q => some (and p q)) b) a
noncomputable def eqI (a b : S) : Option Bool :=
  S.rec (fun _ => none) (fun k x => S.rec (fun _ => none) (fun k' y => onB (and (kEq k k') (and (reB x) (reB y))) (some (eqF x y)) none) (fun _ _ => none) none (fun _ _ _ _ => none) none (fun _ _ => none) (fun _ _ => none) (fun _ _ _ _ => none) none (fun _ => none) (fun _ => none) none (fun _ => none) none (fun _ _ => none) b) (fun _ _ => none) none (fun _ _ _ _ => none) none (fun _ _ => none) (fun _ _ => none) (fun _ _ _ _ => none) none (fun _ => none) (fun _ => none) none (fun _ => none) none (fun _ _ => none) a
noncomputable def kdN (k : IntKind) : Nat := IntKind.rec 0 1 2 3 4 5 6 7 k
noncomputable def inN (n : Int) (l : List Nat) : List Nat := Int.rec (fun m => 0 :: m :: l) (fun m => 1 :: m :: l) n
noncomputable def capN (cs : List (Pth × Nat)) : List Nat := List.rec [] (fun x _ ih => Prod.rec (fun r o => r.n :: o :: ih) x) cs
noncomputable def sKey (s : S) : List Nat :=
  S.rec (fun x => [0, Bool.rec 0 1 x]) (fun k n => 1 :: kdN k :: inN n []) (fun r o => [2, r.n, o]) [3] (fun r o n c => [4, r.n, o, n, c]) [5] (fun a c => [6]) (fun f cs => 7 :: f.n :: capN cs) (fun f q r o => [8, f.n, Bool.rec 0 1 q, r.n, o]) [9] (fun l => 10 :: l) (fun r => [11, r.n]) [12] (fun r => [13, r.n]) [14] (fun r n => [15, r.n, n]) s
noncomputable def isEs (s : S) : Bool := S.rec (fun _ => false) (fun _ _ => false) (fun _ _ => false) false (fun _ _ _ _ => false) false (fun _ _ => true) (fun _ _ => false) (fun _ _ _ _ => false) false (fun _ => false) (fun _ => false) false (fun _ => false) false (fun _ _ => false) s
noncomputable def sEq0 (a b : S) : Bool := and (Bool.not (isEs a)) (natsB (sKey a) (sKey b))
noncomputable def sEq (a b : S) : Bool := S.rec (fun _ => sEq0 a b) (fun k n => S.rec (fun _ => false) (fun k' n' => Bool.rec false (kEq k k') (eqF n n')) (fun _ _ => false) false (fun _ _ _ _ => false) false (fun _ _ => false) (fun _ _ => false) (fun _ _ _ _ => false) false (fun _ => false) (fun _ => false) false (fun _ => false) false (fun _ _ => false) b) (fun _ _ => sEq0 a b) (sEq0 a b) (fun _ _ _ _ => sEq0 a b) (sEq0 a b) (fun _ _ => sEq0 a b) (fun _ _ => sEq0 a b) (fun _ _ _ _ => sEq0 a b) (sEq0 a b) (fun _ => sEq0 a b) (fun _ => sEq0 a b) (sEq0 a b) (fun _ => sEq0 a b) (sEq0 a b) (fun _ _ => sEq0 a b) a
noncomputable def ssEq (a : List S) : List S → Bool :=
  List.rec (motive := fun _ => List S → Bool) (fun b => List.rec true (fun _ _ _ => false) b) (fun x _ ih b => List.rec false (fun y b _ => and (sEq x y) (ih b)) b) a
noncomputable def cEq (a b : C) : Bool := C.rec (fun x => C.rec (fun y => sEq x y) (fun _ => false) b) (fun x => C.rec (fun _ => false) (fun y => ssEq x y) b) a
noncomputable def csEq (a : List C) : List C → Bool :=
  List.rec (motive := fun _ => List C → Bool) (fun b => List.rec true (fun _ _ _ => false) b) (fun x _ ih b => List.rec false (fun y b _ => and (cEq x y) (ih b)) b) a
noncomputable def vEq (a b : V) : Bool :=
  V.rec (fun x => V.rec (fun y => sEq x y) (fun _ => false) (fun _ => false) false b) (fun x => V.rec (fun _ => false) (fun y => ssEq x y) (fun _ => false) false b) (fun x => V.rec (fun _ => false) (fun _ => false) (fun y => csEq x y) false b) false a
noncomputable def nilB (kd : Nat) (s : S) : Option Bool :=
  Nat.rec (S.rec (fun _ => none) (fun _ _ => none) (fun _ _ => some false) (some true) (fun _ _ _ _ => none) none (fun _ _ => none) (fun _ _ => none) (fun _ _ _ _ => none) none (fun _ => none) (fun _ => none) none (fun _ => none) none (fun _ _ => none) s) (fun kd _ =>
  Nat.rec (S.rec (fun _ => none) (fun _ _ => none) (fun _ _ => none) none (fun _ _ _ _ => some false) (some true) (fun _ _ => some false) (fun _ _ => none) (fun _ _ _ _ => none) none (fun _ => none) (fun _ => none) none (fun _ => none) none (fun _ _ => none) s) (fun kd _ =>
  Nat.rec (S.rec (fun _ => none) (fun _ _ => none) (fun _ _ => none) none (fun _ _ _ _ => none) none (fun _ _ => none) (fun _ _ => none) (fun _ _ _ _ => none) none (fun _ => none) (fun _ => some false) (some true) (fun _ => none) none (fun _ _ => none) s) (fun _ _ =>
  S.rec (fun _ => none) (fun _ _ => none) (fun _ _ => none) none (fun _ _ _ _ => none) none (fun _ _ => none) (fun _ _ => some false) (fun _ _ _ _ => some false) (some true) (fun _ => none) (fun _ => none) none (fun _ => some false) none (fun _ _ => none) s) kd) kd) kd
section
variable (cal : Cal) (t : T) (h : Hp) (k : KV)
noncomputable def retK (r : Ans) : Ans := Option.rec none (fun r => Prod.rec k r) r
end
noncomputable def x_mv (x : O) (cal : Cal) (t : T) (h : Hp) (k : KV) : Ans := k (ev t x) h
noncomputable def x_pick (c a b : O) (cal : Cal) (t : T) (h : Hp) (k : KV) : Ans := asB (ev t c) fun q => Bool.rec (k (ev t b) h) (k (ev t a) h) q
noncomputable def x_new (z : List S) (cal : Cal) (t : T) (h : Hp) (k : KV) : Ans := h.pushK (.c z) fun h' => k (.s (.p h.n 0)) h'
noncomputable def x_box (x : O) (cal : Cal) (t : T) (h : Hp) (k : KV) : Ans := asC (ev t x) fun vs => h.pushK (.c vs) fun h' => k (.s (.p h.n 0)) h'
noncomputable def x_build (z : List S) (parts : List (Nat × Nat × O)) (cal : Cal) (t : T) (h : Hp) (k : KV) : Ans := fillK t parts z fun z => k (.agg z) h
noncomputable def x_bsl (n : Nat) (z : List S) (parts : List (Nat × Nat × O)) (cal : Cal) (t : T) (h : Hp) (k : KV) : Ans := fillK t parts z fun z => h.pushK (.c z) fun h' => k (.s (.sl h.n 0 n n)) h'
noncomputable def x_ld (a : O) (cal : Cal) (t : T) (h : Hp) (k : KV) : Ans := asP (ev t a) fun r o => ld1 (h.gb r) o fun s => k (.s s) h
noncomputable def x_ldn (a : O) (n : Nat) (cal : Cal) (t : T) (h : Hp) (k : KV) : Ans := asP (ev t a) fun r o => ldN (h.gb r) o n fun l => k (.agg l) h
noncomputable def isU (v : V) : Bool := V.rec (fun s => S.rec (fun _ => false) (fun k n => Bool.rec (kEq k .i64) false (kn n)) (fun _ _ => false) false (fun _ _ _ _ => false) false (fun _ _ => false) (fun _ _ => false) (fun _ _ _ _ => false) false (fun _ => false) (fun _ => false) false (fun _ => false) false (fun _ _ => false) s) (fun _ => false) (fun _ => false) false v
noncomputable def cuK (b : B) (c : Ans) : Ans := B.rec none (fun _ => none) (fun _ => none) (fun _ _ _ => none) (fun _ _ _ _ => none) (fun _ _ => none) (fun _ => none) (fun _ _ _ _ => none) (fun _ _ _ _ _ _ => none) none (fun _ => c) (fun _ => none) b
noncomputable def x_st (a x : O) (n : Nat) (cal : Cal) (t : T) (h : Hp) (k : KV) : Ans :=
  asP (ev t a) fun r o => Bool.rec (asC (ev t x) fun vs => storeK h r o n vs fun h => k vu h) (onB (and (Nat.beq o 1) (Nat.beq n 1)) (cuK (h.gb r) (k vu h)) none) (isU (ev t x))
noncomputable def x_nil (x : O) (cal : Cal) (t : T) (h : Hp) (k : KV) : Ans :=
  asS (ev t x) fun s => S.rec (fun _ => none) (fun _ _ => none) (fun r o => k (.s (.p r o)) h) none (fun _ _ _ _ => none) none (fun _ _ => none) (fun f cs => k (.s (.fn f cs)) h) (fun f q r o => k (.s (.fm f q r o)) h) none (fun _ => none) (fun _ => none) none (fun r => k (.s (.yl r)) h) none (fun _ _ => none) s
noncomputable def x_bin (op : BinOp) (x y : O) (cal : Cal) (t : T) (h : Hp) (k : KV) : Ans := asI (ev t x) fun k1 a => asI (ev t y) fun k2 b => binV op k1 k2 a b fun v => k v h
noncomputable def x_eqb (neg : Bool) (x y : O) (cal : Cal) (t : T) (h : Hp) (k : KV) : Ans :=
  asB (ev t x) fun a => asB (ev t y) fun b => rQ (Bool.rec (Bool.rec (Bool.not b) b a) (Bool.rec b (Bool.not b) a) neg) fun v => k v h
noncomputable def cmpSs (ks : List Bool) : List S → List S → Bool :=
  List.rec (motive := fun _ => List S → List S → Bool) (fun a b => List.rec (List.rec true (fun _ _ _ => false) b) (fun _ _ _ => false) a)
    (fun q _ ih a b => List.rec false (fun x a _ => List.rec false (fun y b _ =>
      and (S.rec (fun _ => Bool.rec (S.rec (fun _ => true) (fun _ _ => false) (fun _ _ => false) false (fun _ _ _ _ => false) false (fun _ _ => false) (fun _ _ => false) (fun _ _ _ _ => false) false (fun _ => false) (fun _ => false) false (fun _ => false) false (fun _ _ => false) y) false q) (fun j _ => Bool.rec false (S.rec (fun _ => false) (fun k _ => kEq j k) (fun _ _ => false) false (fun _ _ _ _ => false) false (fun _ _ => false) (fun _ _ => false) (fun _ _ _ _ => false) false (fun _ => false) (fun _ => false) false (fun _ => false) false (fun _ _ => false) y) q) (fun _ _ => false) false (fun _ _ _ _ => false) false (fun _ _ => false) (fun _ _ => false) (fun _ _ _ _ => false) false (fun _ => false) (fun _ => false) false (fun _ => false) false (fun _ _ => false) x) (ih a b)) b) a) ks
noncomputable def x_eqa (neg : Bool) (ks : List Bool) (x y : O) (cal : Cal) (t : T) (h : Hp) (k : KV) : Ans :=
  asA (ev t x) fun a => asA (ev t y) fun b => onB (cmpSs ks a b) (onO (eqSs a b) fun q => rQ (Bool.rec q (Bool.not q) neg) fun v => k v h) none
noncomputable def x_eqn (kd : Nat) (neg : Bool) (x : O) (cal : Cal) (t : T) (h : Hp) (k : KV) : Ans :=
  asS (ev t x) fun s => onO (nilB kd s) fun q => rQ (Bool.rec q (Bool.not q) neg) fun v => k v h
noncomputable def x_un (op : UnOp) (x : O) (cal : Cal) (t : T) (h : Hp) (k : KV) : Ans :=
  UnOp.rec (asI (ev t x) fun kd n => onB (reB n) (rI kd (Int.sub 0 n) fun v => k v h) none) (asI (ev t x) fun kd n => onB (reB n) (rI' kd (bits .xor kd (if kd.signed then -1 else kd.max) n) fun v => k v h) none) (asB (ev t x) fun q => rQ (Bool.not q) fun v => k v h) none op
noncomputable def cvY (kd : IntKind) (n : Int) : Bool := Int.rec (fun m => and (isY m) (Nat.blt (sHi m) (lim kd))) (fun _ => false) n
noncomputable def x_conv (kd : IntKind) (x : O) (cal : Cal) (t : T) (h : Hp) (k : KV) : Ans := asI (ev t x) fun _ n => onB (reB n) (rI kd n fun v => k v h) (onB (cvY kd n) (k (.s (.i kd n)) h) none)
noncomputable def x_mkf (f : Pth) (caps : List O) (cal : Cal) (t : T) (h : Hp) (k : KV) : Ans := onO (capsK (evs t caps)) fun cs => k (.s (.fn f cs)) h
noncomputable def x_mkm (f : Pth) (x : O) (cal : Cal) (t : T) (h : Hp) (k : KV) : Ans :=
  V.rec (fun s => asP (.s s) fun r o => k (.s (.fm f false r o)) h) (fun l => List.rec none (fun s l _ => List.rec (asP (.s s) fun r o => k (.s (.fm f true r o)) h) (fun _ _ _ => none) l) l) (fun _ => none) none (ev t x)
noncomputable def mksB (z : List S) (c : Nat) : B :=
  List.rec (.c (zerosS z c)) (fun s l _ => List.rec (S.rec (fun _ => .c (zerosS z c)) (fun k n => Bool.rec (.c (zerosS z c)) (.w k c (Nat.succ (Nat.log2 c)) (wmk 0 (Nat.succ (Nat.log2 c)))) (and (Nat.ble 64 c) (eqF n 0))) (fun _ _ => .c (zerosS z c)) (.c (zerosS z c)) (fun _ _ _ _ => .c (zerosS z c)) (.c (zerosS z c)) (fun _ _ => .c (zerosS z c)) (fun _ _ => .c (zerosS z c)) (fun _ _ _ _ => .c (zerosS z c)) (.c (zerosS z c)) (fun _ => .c (zerosS z c)) (fun _ => .c (zerosS z c)) (.c (zerosS z c)) (fun _ => .c (zerosS z c)) (.c (zerosS z c)) (fun _ _ => .c (zerosS z c)) s) (fun _ _ _ => .c (zerosS z c)) l) z
noncomputable def x_mks (es bytes : Nat) (z : List S) (x y : O) (cal : Cal) (t : T) (h : Hp) (k : KV) : Ans :=
  asI (ev t x) fun _ n => asI (ev t y) fun _ c => Int.rec (fun n => Int.rec (fun c =>
    onB (and (Nat.ble n c) (and (Nat.ble c 1099511627776) (Nat.ble (Nat.mul bytes c) 281474976710656))) (h.pushK (mksB z c) fun h' => k (.s (.sl h.n 0 n c)) h') none) (fun _ => none) c) (fun _ => none) n
noncomputable def slcK (es : Nat) (r : Pth) (o len cap : Nat) (t : T) (lo hi mx : Option O) (h : Hp) (k : KV) : Ans :=
  bndK t 0 lo fun l => bndK t len hi fun u => Option.rec (Bool.rec (onB (and (Nat.ble l u) (Nat.ble u cap)) (fN (Bool.rec (Nat.add o (Nat.mul l es)) o (Nat.beq cap l)) fun o => fN (Nat.sub u l) fun n => fN (Nat.sub cap l) fun c => k (.s (.sl r o n c)) h) none) (onB (and (Nat.ble l u) (and (Nat.ble u (Nat.sub cap G)) (or (Nat.beq l 0) (Nat.blt l (Nat.sub cap G))))) (fN (Nat.add o (Nat.mul l es)) fun o => fN (Nat.sub u l) fun n => fN (Nat.sub cap l) fun c => k (.s (.sl r o n c)) h) none) (Nat.ble G cap)) (fun _ => bndK t 0 mx fun m =>
      onB (and (Nat.ble l u) (and (Nat.ble u m) (and (Nat.blt m G) (Nat.ble m (Bool.rec cap (Nat.sub cap G) (Nat.ble G cap)))))) (fN (Bool.rec (Nat.add o (Nat.mul l es)) o (Nat.beq m l)) fun o => fN (Nat.sub u l) fun n => fN (Nat.sub m l) fun c => k (.s (.sl r o n c)) h) none) mx
noncomputable def x_slc (arr : Option Nat) (es : Nat) (x : O) (lo hi mx : Option O) (cal : Cal) (t : T) (h : Hp) (k : KV) : Ans :=
  Option.rec (asS (ev t x) fun s => S.rec (fun _ => none) (fun _ _ => none) (fun _ _ => none) none (fun r o n c => slcK es r o n c t lo hi mx h k) (bndK t 0 lo fun l => bndK t 0 hi fun u => Option.rec (onB (and (Nat.beq l 0) (Nat.beq u 0)) (k (.s .ns) h) none) (fun _ => none) mx) (fun _ _ => none) (fun _ _ => none) (fun _ _ _ _ => none) none (fun _ => none) (fun _ => none) none (fun _ => none) none (fun _ _ => none) s) (fun n => asP (ev t x) fun r o => slcK es r o n n t lo hi mx h k) arr
noncomputable def x_fa (x : O) (off : Nat) (cal : Cal) (t : T) (h : Hp) (k : KV) : Ans := asP (ev t x) fun r o => fN (Nat.add o off) fun o => k (.s (.p r o)) h
noncomputable def x_fld (x : O) (off : Nat) (n : Option Nat) (cal : Cal) (t : T) (h : Hp) (k : KV) : Ans :=
  asA (ev t x) fun l => Option.rec (onO (nthF l off) fun s => k (.s s) h) (fun n => onO (tkF (drF l off) n) fun l => k (.agg l) h) n
noncomputable def idxK (i : V) (n : Nat) (c : Nat → Ans) : Ans := asI i fun _ i => Int.rec (fun i => onB (and (Nat.blt i n) (Nat.blt i 18446744073709551616)) (c i) none) (fun _ => none) i
noncomputable def x_ia (arr : Option Nat) (es : Nat) (x i : O) (cal : Cal) (t : T) (h : Hp) (k : KV) : Ans :=
  Option.rec (asS (ev t x) fun s => S.rec (fun _ => none) (fun _ _ => none) (fun _ _ => none) none (fun r o n _ => idxK (ev t i) n fun i => fN (Nat.add o (Nat.mul i es)) fun o => k (.s (.p r o)) h) none (fun _ _ => none) (fun _ _ => none) (fun _ _ _ _ => none) none (fun _ => none) (fun _ => none) none (fun _ => none) none (fun r n => idxK (ev t i) (Bool.rec (Nat.mod n 4294967296) n (Nat.blt n 4294967296)) fun i => fN (Nat.add 0 (Nat.mul i es)) fun o => k (.s (.p r o)) h) s) (fun n => asP (ev t x) fun r o => idxK (ev t i) n fun i => fN (Nat.add o (Nat.mul i es)) fun o => k (.s (.p r o)) h) arr
noncomputable def x_ix (len es : Nat) (n : Option Nat) (x i : O) (cal : Cal) (t : T) (h : Hp) (k : KV) : Ans :=
  asA (ev t x) fun l => idxK (ev t i) len fun i => Option.rec (onO (nthF l (Nat.mul i es)) fun s => k (.s s) h) (fun n => onO (tkF (drF l (Nat.mul i es)) n) fun l => k (.agg l) h) n
noncomputable def nthN (l : List Nat) : Nat → Option Nat := List.rec (motive := fun _ => Nat → Option Nat) (fun _ => none) (fun x _ ih n => Nat.rec (some x) (fun q0_ _ => ih q0_) n) l
noncomputable def x_ixs (x i : O) (cal : Cal) (t : T) (h : Hp) (k : KV) : Ans :=
  asS (ev t x) fun s => S.rec (fun _ => none) (fun _ _ => none) (fun _ _ => none) none (fun _ _ _ _ => none) none (fun _ _ => none) (fun _ _ => none) (fun _ _ _ _ => none) none (fun l => asI (ev t i) fun _ i => Int.rec (fun i => onB (Nat.blt i 18446744073709551616) (onO (nthN l i) fun b => onB (Nat.blt b 256) (k (.s (.i .u8 (.ofNat b))) h) none) none) (fun _ => none) i) (fun _ => none) none (fun _ => none) none (fun _ _ => none) s
noncomputable def nthC (l : List C) : Nat → Option C := List.rec (motive := fun _ => Nat → Option C) (fun _ => none) (fun x _ ih n => Nat.rec (some x) (fun q0_ _ => ih q0_) n) l
noncomputable def C.toV (c : C) : V := C.rec V.s V.agg c
noncomputable def V.toC (v : V) (c : C → Ans) : Ans := V.rec (fun s => onB (nU s) (c (.s s)) none) (fun l => c (.agg l)) (fun _ => none) none v
noncomputable def x_ext (x : O) (j : Nat) (cal : Cal) (t : T) (h : Hp) (k : KV) : Ans :=
  V.rec (fun _ => none) (fun _ => none) (fun cs => onO (nthC cs j) fun c => k c.toV h) none (ev t x)
noncomputable def x_call (f : Pth) (args : List O) (cal : Cal) (t : T) (h : Hp) (k : KV) : Ans := retK k (cal (.fn f []) (evs t args) h)
noncomputable def x_callv (f : O) (args : List O) (cal : Cal) (t : T) (h : Hp) (k : KV) : Ans := asS (ev t f) fun s => retK k (cal s (evs t args) h)
noncomputable def x_len (x : O) (cal : Cal) (t : T) (h : Hp) (k : KV) : Ans :=
  asS (ev t x) fun s => S.rec (fun _ => none) (fun _ _ => none) (fun _ _ => none) none (fun _ _ n _ => onB (Nat.blt n 18446744073709551616) (k (.s (.i .i64 (.ofNat n))) h) none) (k (.s (.i .i64 (.ofNat 0))) h) (fun _ _ => k (.s (.i .i64 (.ofNat 0))) h) (fun _ _ => none) (fun _ _ _ _ => none) none (fun _ => none) (fun _ => none) none (fun _ => none) none (fun _ n => Bool.rec (fN (Nat.mod n 4294967296) fun n => k (.s (.i .i64 (.ofNat n))) h) (fN (Nat.add gN n) fun n => k (.s (.i .i64 (.ofNat n))) h) (Nat.blt n 4294967296)) s
noncomputable def mpK (b : B) (c : List (V × V × Nat) → Nat → Ans) : Ans :=
  B.rec none (fun _ => none) (fun _ => none) (fun _ _ _ => none) (fun _ _ _ _ => none) c (fun _ => none) (fun _ _ _ _ => none) (fun _ _ _ _ _ _ => none) none (fun _ => none) (fun _ => none) b
noncomputable def x_lenm (x : O) (cal : Cal) (t : T) (h : Hp) (k : KV) : Ans :=
  asS (ev t x) fun s => S.rec (fun _ => none) (fun _ _ => none) (fun _ _ => none) none (fun _ _ _ _ => none) none (fun _ _ => none) (fun _ _ => none) (fun _ _ _ _ => none) none (fun _ => none) (fun r => mpK (h.gb r) fun es _ => lenF es fun n => onB (Nat.blt n 18446744073709551616) (k (.s (.i .i64 (.ofNat n))) h) none) (k (.s (.i .i64 (.ofNat 0))) h) (fun _ => none) none (fun _ _ => none) s
noncomputable def grK (b : B) (c : List S → Nat → Nat → Ans) : Ans :=
  B.rec none (fun _ => none) (fun _ => none) (fun cs m es => c cs m es) (fun _ _ _ _ => none) (fun _ _ => none) (fun _ => none) (fun _ _ _ _ => none) (fun _ _ _ _ _ _ => none) none (fun _ => none) (fun _ => none) b
noncomputable def appN (es bytes n : Nat) (cs : List S) (h : Hp) (k : KV) : Ans :=
  onB (Nat.ble (Nat.mul n bytes) 140737488355328) (h.pushK (.gr cs n es) fun h' => fN (Nat.add G n) fun c => k (.s (.sl h.n 0 n c)) h') none
noncomputable def appG (es bytes : Nat) (r : Pth) (o len n m cap : Nat) (new : List S) (cs : List S) (rm es' : Nat) (h : Hp) (k : KV) : Ans :=
  onB (and (Nat.beq es es') (Nat.ble (Nat.sub cap G) rm)) (Bool.rec (onB (and (Nat.beq o 0) (Nat.ble (Nat.mul m bytes) 140737488355328)) (h.setK r .dd fun h => h.pushK (.gr (apF cs new) m es) fun h' => fN (Nat.add G m) fun c => k (.s (.sl h.n 0 m c)) h') none) (onB (Nat.ble (Nat.add o (Nat.mul m es)) (Nat.mul rm es)) (widK h r new fun h => h.setK r (.gr (apF cs new) rm es) fun h => k (.s (.sl r o m cap)) h) none) (Nat.ble m (Nat.sub cap G))) none
noncomputable def x_app (es bytes : Nat) (x y : O) (cal : Cal) (t : T) (h : Hp) (k : KV) : Ans :=
  asS (ev t y) fun sy => shK h es sy fun n new => asS (ev t x) fun s => onB (Nat.blt 0 es)
    (S.rec (fun _ => none) (fun _ _ => none) (fun _ _ => none) none (fun r o len cap => fN (Nat.add len n) fun m => Bool.rec (Bool.rec (ldN (h.gb r) o (Nat.mul len es) fun old => appN es bytes m (apF old new) h k) (storeK h r (Nat.add o (Nat.mul len es)) (Nat.mul n es) new fun h => k (.s (.sl r o m cap)) h) (Nat.ble m cap)) (grK (h.gb r) fun cs rm es' => lenF cs fun l =>
          Bool.rec (onB (Nat.ble m (Nat.sub cap G)) (storeK h r (Nat.add o (Nat.mul len es)) (Nat.mul n es) new fun h => k (.s (.sl r o m cap)) h) none) (appG es bytes r o len n m cap new cs rm es' h k) (Nat.beq l (Nat.add o (Nat.mul len es)))) (Nat.ble G cap)) (Nat.rec none (fun m _ => appN es bytes (Nat.succ m) new h k) n) (fun _ _ => none) (fun _ _ => none) (fun _ _ _ _ => none) none (fun _ => none) (fun _ => none) none (fun _ => none) none (fun _ _ => none) s) none
noncomputable def x_cpy (es : Nat) (x y : O) (cal : Cal) (t : T) (h : Hp) (k : KV) : Ans :=
  asS (ev t y) fun sy => shK h es sy fun n src => asS (ev t x) fun s =>
    S.rec (fun _ => none) (fun _ _ => none) (fun _ _ => none) none (fun r o len _ => fN (Nat.min n len) fun m => onO (tkF src (Nat.mul m es)) fun src => onB (Nat.blt m 18446744073709551616) (storeK h r o (Nat.mul m es) src fun h => k (.s (.i .i64 (.ofNat m))) h) none) (k (.s (.i .i64 (.ofNat 0))) h) (fun _ _ => none) (fun _ _ => none) (fun _ _ _ _ => none) none (fun _ => none) (fun _ => none) none (fun _ => none) none (fun _ _ => none) s
noncomputable def mxY (n m : Int) : Option Bool := natsK n m fun x y => rgK x fun la ha => rgK y fun lb hb => onB (Nat.ble ha lb) (some true) (onB (Nat.ble hb la) (some false) none)
noncomputable def x_mx (isMax : Bool) (x y : O) (cal : Cal) (t : T) (h : Hp) (k : KV) : Ans :=
  asI (ev t x) fun k1 a => asI (ev t y) fun k2 b => onB (and (kEq k1 k2) (and (reB a) (reB b)))
    (Bool.rec (Bool.rec (k (.s (.i k1 b)) h) (k (.s (.i k1 a)) h) (leF a b)) (Bool.rec (k (.s (.i k1 a)) h) (k (.s (.i k1 b)) h) (leF a b)) isMax)
    (onB (kEq k1 k2) (onO (mxY a b) fun q => Bool.rec (Bool.rec (k (.s (.i k1 b)) h) (k (.s (.i k1 a)) h) q) (Bool.rec (k (.s (.i k1 a)) h) (k (.s (.i k1 b)) h) q) isMax) none)
noncomputable def x_arr (n : Nat) (x : O) (cal : Cal) (t : T) (h : Hp) (k : KV) : Ans :=
  asS (ev t x) fun s => S.rec (fun _ => none) (fun _ _ => none) (fun _ _ => none) none (fun r o len _ => onB (Nat.ble n len) (k (.s (.p r o)) h) none) none (fun _ _ => none) (fun _ _ => none) (fun _ _ _ _ => none) none (fun _ => none) (fun _ => none) none (fun _ => none) none (fun _ _ => none) s
noncomputable def x_mkmap (cal : Cal) (t : T) (h : Hp) (k : KV) : Ans := h.pushK (.mp [] 0) fun h' => k (.s (.mp h.n)) h'
abbrev ME := V × V × Nat
noncomputable def bytB (n : Nat) : Bool := Nat.blt n 256
noncomputable def stG {γ : Type} (s : S) (z : γ) (c : List Nat → γ) : γ := S.rec (fun _ => z) (fun _ _ => z) (fun _ _ => z) z (fun _ _ _ _ => z) z (fun _ _ => z) (fun _ _ => z) (fun _ _ _ _ => z) z c (fun _ => z) z (fun _ => z) z (fun _ _ => z) s
noncomputable def eqT (a b : S) : Option Bool := stG a none fun x => stG b none fun y => onB (and (allF bytB x) (allF bytB y)) (some (natsB x y)) none
noncomputable def eqK (ks : List Bool) (a b : V) : Option Bool :=
  List.rec (V.rec (fun x => V.rec (fun y => eqI x y) (fun _ => none) (fun _ => none) none b) (fun _ => none) (fun _ => none) none a) (fun k ks _ => List.rec (V.rec (fun x => V.rec (fun y => eqT x y) (fun _ => none) (fun _ => none) none b) (fun _ => none) (fun _ => none) none a) (fun k2 ks _ => V.rec (fun _ => none) (fun x => V.rec (fun _ => none) (fun y => onB (cmpSs (k :: k2 :: ks) x y) (eqSs x y) none) (fun _ => none) none b) (fun _ => none) none a) ks) ks
noncomputable def keyB (ks : List Bool) (v : V) : Bool :=
  List.rec (V.rec (fun s => S.rec (fun _ => false) (fun _ n => reB n) (fun _ _ => false) false (fun _ _ _ _ => false) false (fun _ _ => false) (fun _ _ => false) (fun _ _ _ _ => false) false (fun _ => false) (fun _ => false) false (fun _ => false) false (fun _ _ => false) s) (fun _ => false) (fun _ => false) false v) (fun k ks _ => List.rec (V.rec (fun s => stG s false fun l => allF bytB l) (fun _ => false) (fun _ => false) false v) (fun k2 ks _ => V.rec (fun _ => false) (fun x => cmpSs (k :: k2 :: ks) x x) (fun _ => false) false v) ks) ks
noncomputable def fndK (ks : List Bool) (key : V) (fd : V → Ans) (nf : Unit → Ans) (es : List ME) : Ans :=
  List.rec (nf ()) (fun e _ ih => Prod.rec (fun a q => onO (eqK ks key a) fun b => Bool.rec ih (Prod.rec (fun v _ => fd v) q) b) e) es
noncomputable def updM (ks : List Bool) (key val : V) (es : List ME) : (List ME → Ans) → (Unit → Ans) → Ans :=
  List.rec (motive := fun _ => (List ME → Ans) → (Unit → Ans) → Ans) (fun _ nf => nf ())
    (fun e es ih fd nf => Prod.rec (fun a q => onO (eqK ks key a) fun b => Bool.rec (ih (fun l => fd (e :: l)) nf) (Prod.rec (fun _ b => fd ((a, val, b) :: es)) q) b) e) es
noncomputable def apM (a b : List ME) : List ME := List.rec b (fun x _ ih => x :: ih) a
noncomputable def lkB (b : B) (c : List ME → Ans) (d : List (V × V) → Ans) : Ans :=
  B.rec none (fun _ => none) (fun _ => none) (fun _ _ _ => none) (fun _ _ _ _ => none) (fun es _ => c es) d (fun _ _ _ _ => none) (fun _ _ _ _ _ _ => none) none (fun _ => none) (fun _ => none) b
noncomputable def uniK (ks : List Bool) (key : V) (es : List (V × V)) : Option (Option V) :=
  List.rec (some none) (fun x _ ih => Prod.rec (fun a v => onO (eqK ks key a) fun b => onO ih fun r => Bool.rec (some r) (Option.rec (some (some v)) (fun _ => none) r) b) x) es
noncomputable def lkR (ok : Bool) (v : V) (q : Bool) (h : Hp) (k : KV) : Ans := Bool.rec (k v h) (v.toC fun c => k (.tup [c, .s (.b q)]) h) ok
noncomputable def x_lk (ok : Bool) (ks : List Bool) (z : V) (m key : O) (cal : Cal) (t : T) (h : Hp) (k : KV) : Ans :=
  onB (keyB ks (ev t key)) (asS (ev t m) fun s => S.rec (fun _ => none) (fun _ _ => none) (fun _ _ => none) none (fun _ _ _ _ => none) none (fun _ _ => none) (fun _ _ => none) (fun _ _ _ _ => none) none (fun _ => none) (fun r => lkB (h.gb r) (fun es => fndK ks (ev t key) (fun v => lkR ok v true h k) (fun _ => lkR ok z false h k) es) fun es => onO (uniK ks (ev t key) es) fun r => Option.rec (lkR ok z false h k) (fun v => lkR ok v true h k) r) (lkR ok z false h k) (fun _ => none) none (fun _ _ => none) s) none
noncomputable def x_up (ks : List Bool) (m key v : O) (cal : Cal) (t : T) (h : Hp) (k : KV) : Ans :=
  onB (keyB ks (ev t key)) (asS (ev t m) fun s => S.rec (fun _ => none) (fun _ _ => none) (fun _ _ => none) none (fun _ _ _ _ => none) none (fun _ _ => none) (fun _ _ => none) (fun _ _ _ _ => none) none (fun _ => none) (fun r => mpK (h.gb r) fun es ck => asC (ev t v) fun vc => widK h r vc fun h =>
      updM ks (ev t key) (ev t v) es (fun es => h.setK r (.mp es ck) fun h => k vu h) (fun _ => fN (Nat.succ ck) fun ck' => h.setK r (.mp (apM es [(ev t key, ev t v, ck)]) ck') fun h => k vu h)) none (fun _ => none) none (fun _ _ => none) s) none
noncomputable def x_rng (x : O) (cal : Cal) (t : T) (h : Hp) (k : KV) : Ans :=
  asS (ev t x) fun s => S.rec (fun _ => none) (fun _ _ => none) (fun _ _ => none) none (fun _ _ _ _ => none) none (fun _ _ => none) (fun _ _ => none) (fun _ _ _ _ => none) none (fun _ => none) (fun r => mpK (h.gb r) fun es ck => h.pushK (.it (some r) ck [] ck) fun h' => k (.s (.p h.n 0)) h') (h.pushK (.it none 0 [] 0) fun h' => k (.s (.p h.n 0)) h') (fun _ => none) none (fun _ _ => none) s
noncomputable def itK (b : B) (c : Option Pth → Nat → List Nat → Nat → Ans) : Ans :=
  B.rec none (fun _ => none) (fun _ => none) (fun _ _ _ => none) (fun _ _ _ _ => none) (fun _ _ => none) (fun _ => none) c (fun _ _ _ _ _ _ => none) none (fun _ => none) (fun _ => none) b
noncomputable def memN (x : Nat) (l : List Nat) : Bool := List.rec false (fun y _ ih => or (Nat.beq x y) ih) l
noncomputable def leftM (since : Nat) (seen : List Nat) (c : List ME → Ans) (es : List ME) : Ans :=
  List.rec (motive := fun _ => (List ME → Ans) → Ans) (fun c => c [])
    (fun e _ ih c => Prod.rec (fun a q => Prod.rec (fun v b => onB (Nat.blt b since) (Bool.rec (ih fun l => c (e :: l)) (ih c) (memN b seen)) none) q) e) es c
noncomputable def wtoEq (a : List (Nat × Int)) : List (Nat × Int) → Bool :=
  List.rec (motive := fun _ => List (Nat × Int) → Bool) (fun b => List.rec true (fun _ _ _ => false) b)
    (fun x _ ih b => List.rec false (fun y b _ => and (Prod.rec (fun i x => Prod.rec (fun j y => and (Nat.beq i j) (eqF x y)) y) x) (ih b)) b) a
noncomputable def wtEq (a b : Wt) : Bool := Wt.rec (fun m o => Wt.rec (fun m' o' => and (Nat.beq m m') (wtoEq o o')) b) a
noncomputable def mesEq (a : List ME) : List ME → Bool :=
  List.rec (motive := fun _ => List ME → Bool) (fun b => List.rec true (fun _ _ _ => false) b)
    (fun x _ ih b => List.rec false (fun y b _ => and (Prod.rec (fun k q => Prod.rec (fun v n => Prod.rec (fun k' q' => Prod.rec (fun v' n' => and (vEq k k') (and (vEq v v') (Nat.beq n n'))) q') y) q) x) (ih b)) b) a
noncomputable def oEq (a b : Option Pth) : Bool := Option.rec (Option.rec true (fun _ => false) b) (fun x => Option.rec false (fun y => Nat.beq x.n y.n) b) a
noncomputable def bEq (a b : B) : Bool :=
  B.rec (B.rec true (fun _ => false) (fun _ => false) (fun _ _ _ => false) (fun _ _ _ _ => false) (fun _ _ => false) (fun _ => false) (fun _ _ _ _ => false) (fun _ _ _ _ _ _ => false) false (fun _ => false) (fun _ => false) b) (fun x => B.rec false (fun y => ssEq x y) (fun _ => false) (fun _ _ _ => false) (fun _ _ _ _ => false) (fun _ _ => false) (fun _ => false) (fun _ _ _ _ => false) (fun _ _ _ _ _ _ => false) false (fun _ => false) (fun _ => false) b) (fun x => B.rec false (fun _ => false) (fun y => ssEq x y) (fun _ _ _ => false) (fun _ _ _ _ => false) (fun _ _ => false) (fun _ => false) (fun _ _ _ _ => false) (fun _ _ _ _ _ _ => false) false (fun _ => false) (fun _ => false) b) (fun x m es => B.rec false (fun _ => false) (fun _ => false) (fun y m' es' => and (ssEq x y) (and (Nat.beq m m') (Nat.beq es es'))) (fun _ _ _ _ => false) (fun _ _ => false) (fun _ => false) (fun _ _ _ _ => false) (fun _ _ _ _ _ _ => false) false (fun _ => false) (fun _ => false) b) (fun k m D d => B.rec false (fun _ => false) (fun _ => false) (fun _ _ _ => false) (fun k' m' D' d' => and (kEq k k') (and (Nat.beq m m') (and (Nat.beq D D') (wtEq d d')))) (fun _ _ => false) (fun _ => false) (fun _ _ _ _ => false) (fun _ _ _ _ _ _ => false) false (fun _ => false) (fun _ => false) b) (fun x c => B.rec false (fun _ => false) (fun _ => false) (fun _ _ _ => false) (fun _ _ _ _ => false) (fun y c' => and (mesEq x y) (Nat.beq c c')) (fun _ => false) (fun _ _ _ _ => false) (fun _ _ _ _ _ _ => false) false (fun _ => false) (fun _ => false) b) (fun _ => false) (fun x a l n => B.rec false (fun _ => false) (fun _ => false) (fun _ _ _ => false) (fun _ _ _ _ => false) (fun _ _ => false) (fun _ => false) (fun y a' l' n' => and (oEq x y) (and (Nat.beq a a') (and (natsB l l') (Nat.beq n n')))) (fun _ _ _ _ _ _ => false) false (fun _ => false) (fun _ => false) b) (fun _ _ _ _ _ _ => false) (B.rec false (fun _ => false) (fun _ => false) (fun _ _ _ => false) (fun _ _ _ _ => false) (fun _ _ => false) (fun _ => false) (fun _ _ _ _ => false) (fun _ _ _ _ _ _ => false) true (fun _ => false) (fun _ => false) b) (fun x => B.rec false (fun _ => false) (fun _ => false) (fun _ _ _ => false) (fun _ _ _ _ => false) (fun _ _ => false) (fun _ => false) (fun _ _ _ _ => false) (fun _ _ _ _ _ _ => false) false (fun y => sEq x y) (fun _ => false) b) (fun x => B.rec false (fun _ => false) (fun _ => false) (fun _ _ _ => false) (fun _ _ _ _ => false) (fun _ _ => false) (fun _ => false) (fun _ _ _ _ => false) (fun _ _ _ _ _ _ => false) false (fun _ => false) (fun y => Nat.beq x y) b) a
noncomputable def eqAt (m i : Nat) (x y : B) : Bool := Bool.rec (bEq x y) true (Nat.ble m i)
noncomputable def n8q {α : Type} (f : Nat → α → α → Bool) (w i : Nat) (a b : N8 α) : Bool :=
  N8.casesOn a fun a0 a1 a2 a3 a4 a5 a6 a7 => N8.casesOn b fun b0 b1 b2 b3 b4 b5 b6 b7 =>
    and (f i a0 b0) (and (f (Nat.add i w) a1 b1) (and (f (Nat.add i (Nat.mul 2 w)) a2 b2) (and (f (Nat.add i (Nat.mul 3 w)) a3 b3)
      (and (f (Nat.add i (Nat.mul 4 w)) a4 b4) (and (f (Nat.add i (Nat.mul 5 w)) a5 b5) (and (f (Nat.add i (Nat.mul 6 w)) a6 b6) (f (Nat.add i (Nat.mul 7 w)) a7 b7)))))))
noncomputable def pastB (m i : Nat) (r : Bool) : Bool := Bool.rec r true (Nat.ble m i)
noncomputable def trEq (m : Nat) (a b : Tr B) : Bool := Tr.rec (fun s t _ => Tr.rec (fun s' t' _ =>
  and (Nat.ble m 576) (and (n8q (fun i x y => pastB m i (n8q (eqAt m) 1 i x y)) 8 0 s s') (pastB m 64 (n8q (fun i x y => pastB m i (n8q (fun i x y => pastB m i (n8q (eqAt m) 1 i x y)) 8 i x y)) 64 64 t t')))) b) a
noncomputable def hpEq (m : Nat) (a b : Hp) : Bool := Hp.rec (fun b1 _ er1 eq1 _ _ _ => Hp.rec (fun b2 _ er2 eq2 _ _ _ => and (Nat.beq er1 er2) (and (Nat.beq eq1 eq2) (trEq m b1 b2))) b) a
noncomputable def sameA (m : Nat) (r : RES) (x : Ans) : Ans := onO x fun r' => Prod.rec (fun v h => Prod.rec (fun v' h' => onB (and (vEq v v') (hpEq m h h')) (some (v, h)) none) r') r
noncomputable def eachM (m : Nat) (f : ME → Ans) (r : RES) (l : List ME) : Ans := List.rec (some r) (fun e _ ih => onO (sameA m r (f e)) fun _ => ih) l
noncomputable def apN (a b : List Nat) : List Nat := List.rec b (fun x _ ih => x :: ih) a
noncomputable def x_nxt (x : O) (cal : Cal) (t : T) (h : Hp) (k : KV) : Ans :=
  asP (ev t x) fun r o => onB (Nat.beq o 0) (itK (h.gb r) fun m since seen last => Option.rec (k (.tup [.s (.b false)]) h) (fun m => mpK (h.gb m) fun es ck => onB (and (Nat.beq ck last) (Nat.ble since last))
    (leftM since seen (fun l => List.rec (k (.tup [.s (.b false)]) h) (fun e l _ =>
      let f : ME → Ans := (fun e => Prod.rec (fun key q => Prod.rec (fun v b => key.toC fun key => v.toC fun v => h.setK r (.it (some m) since (apN seen [b]) ck) fun h => k (.tup [.s (.b true), key, v]) h) q) e)
      List.rec (f e) (fun e2 l _ => onB h.ch (onO (f e) fun r => eachM h.fz f r (e2 :: l)) none) l) l) es) none) m) none
noncomputable def lastN (l : List Nat) : Option Nat := List.rec none (fun x l ih => List.rec (some x) (fun _ _ _ => ih) l) l
noncomputable def bornK (b : Nat) (c : V → V → Ans) (es : List ME) : Ans := List.rec none (fun e _ ih => Prod.rec (fun a q => Prod.rec (fun v b' => Bool.rec ih (c a v) (Nat.beq b' b)) q) e) es
noncomputable def x_ent (x : O) (cal : Cal) (t : T) (h : Hp) (k : KV) : Ans :=
  asP (ev t x) fun r o => onB (Nat.beq o 0) (itK (h.gb r) fun m since seen last => onO m fun m => mpK (h.gb m) fun es ck => onB (Nat.beq ck last)
    (onO (lastN seen) fun b => bornK b (fun a v => a.toC fun a => v.toC fun v => k (.tup [a, v]) h) es) none) none
noncomputable def x_dfr (f : Pth) (args : List O) (cal : Cal) (t : T) (h : Hp) (k : KV) : Ans := Hp.rec (fun b n er eq fz df ch => k vu (Hp.mk b n er eq fz (.fn f (evs t args) :: df) ch)) h
noncomputable def exJ (op : J) : Cal → T → Hp → KV → Ans :=
  J.rec (motive := fun _ => Cal → T → Hp → KV → Ans) x_mv x_pick x_new x_box x_build x_bsl x_ld x_ldn x_st x_nil x_bin x_eqb x_eqa x_eqn x_un x_conv x_mkf x_mkm x_mks x_slc x_fa x_fld x_ia x_ix x_ixs x_ext x_call x_callv x_len x_lenm x_app x_cpy x_mx x_arr x_mkmap x_lk x_up x_rng x_nxt x_ent x_dfr op
noncomputable def noCal : Cal := fun _ _ _ => none
noncomputable def gdK (t : T) (j : Pth) (w : Bool) (y n : Ans) : Ans :=
  V.rec (fun s => S.rec (fun q => Bool.rec (Bool.rec y n w) (Bool.rec n y w) q) (fun _ _ => none) (fun _ _ => none) none (fun _ _ _ _ => none) none (fun _ _ => none) (fun _ _ => none) (fun _ _ _ _ => none) none (fun _ => none) (fun _ => none) none (fun _ => none) none (fun _ _ => none) s) (fun _ => none) (fun cs => List.rec n (fun _ _ _ => none) cs) none (gtV j t)
noncomputable def g_g (d : Option Pth) (op : J) (cal : Cal) (t : T) (h : Hp) (k : KT) : Ans := exJ op cal t h fun v h => putK d t v fun t => k t h
noncomputable def g_c (d : Option Pth) (op : J) (j : Pth) (w : Bool) (cal : Cal) (t : T) (h : Hp) (k : KT) : Ans := gdK t j w (g_g d op cal t h k) (putK d t vu fun t => k t h)
noncomputable def exG (g : GJ) : Cal → T → Hp → KT → Ans := GJ.rec (motive := fun _ => Cal → T → Hp → KT → Ans) g_g g_c g
noncomputable def lk_g (d : Option Pth) (op : J) (t : T) (h : Hp) (c : V → Ans) : Ans := exJ op noCal t h fun v _ => c v
noncomputable def lk_c (d : Option Pth) (op : J) (j : Pth) (w : Bool) (t : T) (h : Hp) (c : V → Ans) : Ans := gdK t j w (lk_g d op t h c) (c vu)
noncomputable def lk1 (g : GJ) : T → Hp → (V → Ans) → Ans := GJ.rec (motive := fun _ => T → Hp → (V → Ans) → Ans) lk_g lk_c g
noncomputable def GJ.d (g : GJ) : Option Pth := GJ.rec (fun d _ => d) (fun d _ _ _ => d) g
noncomputable def ck1 (g : GJ) (t : T) (h : Hp) (c : Unit → Ans) : Ans := lk1 g t h fun v => Option.rec (c ()) (fun p => onB (vEq v (gtV p t)) (c ()) none) g.d
noncomputable def ckK (l : List GJ) (t : T) (h : Hp) (c : Unit → Ans) : Ans := List.rec (c ()) (fun g _ ih => ck1 g t h fun _ => ih) l
noncomputable def x_lt (g : GJ) (cal : Cal) (t : T) (h : Hp) (k : KT) : Ans := exG g cal t h k
noncomputable def x_hv (g : GJ) (chk : List GJ) (cal : Cal) (t : T) (h : Hp) (k : KT) : Ans :=
  exG g cal t h fun t' h' => onB (Nat.ble h.n.n h'.n.n) (ckK chk t' h' fun _ => k t' h') none
noncomputable def exX (x : XJ) : Cal → T → Hp → KT → Ans := XJ.rec (motive := fun _ => Cal → T → Hp → KT → Ans) x_lt x_hv x
noncomputable def exL (l : List GJ) : Cal → T → Hp → KT → Ans :=
  List.rec (motive := fun _ => Cal → T → Hp → KT → Ans) (fun _ t h k => k t h) (fun g _ ih cal t h k => exG g cal t h fun t h => ih cal t h k) l
noncomputable def exXs (l : List XJ) : Cal → T → Hp → KT → Ans :=
  List.rec (motive := fun _ => Cal → T → Hp → KT → Ans) (fun _ t h k => k t h) (fun g _ ih cal t h k => exX g cal t h fun t h => ih cal t h k) l
abbrev MD := Cal → T → Hp → KT → KT → (Nat → KT) → Ans
noncomputable def d_skip (cal : Cal) (t : T) (h : Hp) (kn kr : KT) (kx : Nat → KT) : Ans := kn t h
noncomputable def d_reg (l : List GJ) (cal : Cal) (t : T) (h : Hp) (kn kr : KT) (kx : Nat → KT) : Ans := exL l cal t h kn
noncomputable def d_drw (l : List XJ) (cal : Cal) (t : T) (h : Hp) (kn kr : KT) (kx : Nat → KT) : Ans := exXs l cal t h kn
def upOf : GJ → Option (List Bool × O × O × O)
  | .g none (.up ks m k v) => some (ks, m, k, v)
  | _ => none
abbrev EV := List Bool × V × V
noncomputable def mpS (s : S) (c : Pth → Ans) : Ans := S.rec (fun _ => none) (fun _ _ => none) (fun _ _ => none) none (fun _ _ _ _ => none) none (fun _ _ => none) (fun _ _ => none) (fun _ _ _ _ => none) none (fun _ => none) c none (fun _ => none) none (fun _ _ => none) s
noncomputable def pL (r : Pth) (q : Pth) : Bool := Nat.blt q.n r.n
noncomputable def mlE (t : T) (r : Pth) (g : GJ) (c : EV → Ans) : Ans :=
  onO (upOf g) fun q => Prod.rec (fun ks q => Prod.rec (fun m q => Prod.rec (fun k v =>
    asS (ev t m) fun s => mpS s fun r' => onB (Nat.beq r'.n r.n) (onB (keyB ks (ev t k)) (onB (and ((ev t k).rk (pL r)) ((ev t v).rk (pL r))) (asC (ev t v) fun _ => c (ks, ev t k, ev t v)) none) none) none) q) q) q
noncomputable def mlL (t : T) (r : Pth) (l : List GJ) : (List EV → Ans) → Ans := List.rec (motive := fun _ => (List EV → Ans) → Ans) (fun c => c []) (fun g _ ih c => mlE t r g fun x => ih fun xs => c (x :: xs)) l
noncomputable def nB (o : Option Bool) : Bool := Option.rec false (fun b => Bool.not b) o
noncomputable def neK (x y : EV) : Bool := nB (eqK x.1 x.2.1 y.2.1)
noncomputable def dstB (l : List EV) : Bool := List.rec true (fun x l ih => and (allF (fun y => and (neK x y) (neK y x)) l) ih) l
noncomputable def entL (l : List EV) : List (V × V) := List.rec [] (fun x _ ih => x.2 :: ih) l
noncomputable def mlK (m : O) (es : List GJ) (t : T) (h : Hp) (c : Hp → Ans) : Ans :=
  asS (ev t m) fun s => mpS s fun r => mpK (h.gb r) fun e0 _ => List.rec (onB (Nat.blt r.n h.n.n) (mlL t r es fun l => onB (dstB l) (h.setK r (.ml (entL l)) c) none) none) (fun _ _ _ => none) e0
noncomputable def d_drm (l : List XJ) (m : O) (es : List GJ) (cal : Cal) (t : T) (h : Hp) (kn kr : KT) (kx : Nat → KT) : Ans := exXs l cal t h fun t h => mlK m es t h fun h => kn t h
noncomputable def d_seq (a b : DJ) (ia ib : MD) (cal : Cal) (t : T) (h : Hp) (kn kr : KT) (kx : Nat → KT) : Ans := ia cal t h (fun t h => ib cal t h kn kr kx) kr kx
noncomputable def d_cond (x : O) (a b : DJ) (ia ib : MD) (cal : Cal) (t : T) (h : Hp) (kn kr : KT) (kx : Nat → KT) : Ans :=
  asB (ev t x) fun q => Bool.rec (ib cal t h kn kr kx) (ia cal t h kn kr kx) q
noncomputable def d_block (id : Nat) (c : DJ) (ic : MD) (cal : Cal) (t : T) (h : Hp) (kn kr : KT) (kx : Nat → KT) : Ans :=
  ic cal t h kn kr fun j t h => Bool.rec (kx j t h) (kn t h) (Nat.beq j id)
noncomputable def fuelL : Nat := 1000000
noncomputable def loopK (f : KT → KT) (n : Nat) : KT := Nat.rec (motive := fun _ => KT) (fun _ _ => none) (fun _ X t h => f X t h) n
noncomputable def d_loop (c : DJ) (ic : MD) (cal : Cal) (t : T) (h : Hp) (kn kr : KT) (kx : Nat → KT) : Ans :=
  loopK (fun X t h => ic cal t h X kr kx) fuelL t h
noncomputable def d_exit (id : Nat) (cal : Cal) (t : T) (h : Hp) (kn kr : KT) (kx : Nat → KT) : Ans := kx id t h
noncomputable def d_ret (cal : Cal) (t : T) (h : Hp) (kn kr : KT) (kx : Nat → KT) : Ans := kr t h
noncomputable def lpK (b : B) (c : T → List Pth → DJ → DJ → Nat → Option (Option Nat) → Ans) : Ans :=
  B.rec none (fun _ => none) (fun _ => none) (fun _ _ _ => none) (fun _ _ _ _ => none) (fun _ _ => none) (fun _ => none) (fun _ _ _ _ => none) c none (fun _ => none) (fun _ => none) b
noncomputable def fnB (s : S) : Bool := S.rec (fun _ => false) (fun _ _ => false) (fun _ _ => false) false (fun _ _ _ _ => false) false (fun _ _ => false) (fun _ _ => true) (fun _ _ _ _ => true) false (fun _ => false) (fun _ => false) false (fun _ => false) false (fun _ _ => false) s
noncomputable def rfK (g : O) (ps : List Pth) (asg body : DJ) (cal : Cal) (t : T) (h : Hp) (kn kr : KT) (kx : Nat → KT) : Ans :=
  h.pushK (.lp t ps asg body 0 none) fun h' => asS (ev t g) fun s => onB (fnB s) (onO (cal s [.s (.yl h.n)] h') fun r => Prod.rec (fun _ h2 =>
    lpK (h2.gb h.n) fun t' ps' asg' body' st pend => onB (Bool.not (Nat.beq st 1)) (h2.setK h.n .dd fun h3 => Option.rec (kn t h3) (fun e => Option.rec (kr t h3) (fun id => kx id t h3) e) pend) none) r) none
noncomputable def d_rf (g : O) (ps : List Pth) (asg body : DJ) (ia ib : MD) (cal : Cal) (t : T) (h : Hp) (kn kr : KT) (kx : Nat → KT) : Ans :=
  h.pushK .dq fun h' => Hp.rec (fun b n er eq fz df ch => rfK g ps asg body cal t (Hp.mk b n er eq fz (.mk h.n :: df) ch) kn kr kx) h'
noncomputable def exD (d : DJ) : MD := DJ.rec (motive := fun _ => MD) d_skip d_reg d_drw d_seq d_cond d_block d_loop d_exit d_ret d_rf d_drm d
noncomputable def fdef : FJ := ⟨false, .exit 0, []⟩
noncomputable def gtF (p : Pth) : Tr FJ → FJ := Pth.rec (motive := fun _ => Tr FJ → FJ) (fun i j t => N8.g j (N8.g i t.s)) (fun i j k t => N8.g k (N8.g j (N8.g i t.t))) (fun n t => lkF fdef n t.o) p
def tE : T := ⟨e8 (e8 vu), e8 (e8 (e8 vu)), []⟩
noncomputable def iniK (l : List V) : Pth → T → (T → Ans) → Ans :=
  List.rec (motive := fun _ => Pth → T → (T → Ans) → Ans) (fun _ t c => c t) (fun v _ ih p t c => stK vu p t v fun t => p.succK fun p => ih p t c) l
noncomputable def rvK (t : T) (h : Hp) (r : RV) (c : V → Ans) : Ans :=
  RV.rec (fun p => c (gtV p t)) (fun a n => asP (gtV a t) fun r o => Option.rec (ld1 (h.gb r) o fun s => c (.s s)) (fun n => ldN (h.gb r) o n fun l => c (.agg l)) n) r
noncomputable def rvsK (t : T) (h : Hp) (l : List RV) : (List V → Ans) → Ans :=
  List.rec (motive := fun _ => (List V → Ans) → Ans) (fun c => c []) (fun r _ ih c => rvK t h r fun v => ih fun vs => c (v :: vs)) l
noncomputable def vcsK (l : List V) : (List C → Ans) → Ans :=
  List.rec (motive := fun _ => (List C → Ans) → Ans) (fun c => c []) (fun v _ ih c => v.toC fun x => ih fun xs => c (x :: xs)) l
noncomputable def resK (l : List V) (c : V → Ans) : Ans := List.rec (c vu) (fun v l' _ => List.rec (c v) (fun _ _ _ => vcsK l fun cs => c (.tup cs)) l') l
noncomputable def dqK (b : B) (c : Ans) : Ans := B.rec none (fun _ => none) (fun _ => none) (fun _ _ _ => none) (fun _ _ _ _ => none) (fun _ _ => none) (fun _ => none) (fun _ _ _ _ => none) (fun _ _ _ _ _ _ => none) c (fun _ => none) (fun _ => none) b
noncomputable def runD (prog : Tr FJ) (cal : Cal) (f : Pth) (args : List V) (h : Hp) : Ans :=
  FJ.rec (fun _ body res => iniK args .z tE fun t => Hp.rec (fun b n er eq fz df ch =>
    let kr : KT := (fun t h => Hp.rec (fun b' n' er' eq' fz' df' ch' => List.rec (rvsK t h res fun vs => resK vs fun v => some (v, Hp.mk b' n' er' eq' fz df ch)) (fun _ _ _ => none) df') h)
    exD body cal t (Hp.mk b n er eq fz [] false) kr kr fun _ _ _ => none) h) (gtF f prog)
noncomputable def dfK (rd : Pth → List V → Hp → Ans) (l : List DF) : Hp → (Hp → Ans) → Ans :=
  List.rec (motive := fun _ => Hp → (Hp → Ans) → Ans) (fun h c => c h)
    (fun d _ ih h c => DF.rec (fun r => dqK (h.gb r) (h.setK r .dd fun h => ih h c)) (fun f args => onO (rd f args h) fun r => Prod.rec (fun _ h => ih h c) r) d) l
noncomputable def finK (n : Pth) (fz : Nat) (df : List DF) (ch : Bool) (v : V) (h : Hp) : Ans :=
  fN n.n fun m => Hp.rec (fun b n' er eq _ _ _ => Bool.rec (some (v, Hp.mk b n' er eq fz df ch)) (some (v, Hp.mk b n er eq fz df ch)) (and (v.ok m) (or (Nat.ble m er) (Nat.blt eq m)))) h
noncomputable def runF (prog : Tr FJ) (cal : Cal) (f : Pth) (args : List V) (h : Hp) : Ans :=
  FJ.rec (fun fr body res => iniK args .z tE fun t => Hp.rec (fun b n er eq fz df ch =>
    Bool.rec (let kr : KT := (fun t h => Hp.rec (fun b' n' er' eq' fz' df' ch' => dfK (runD prog cal) df' (Hp.mk b' n' er' eq' fz' [] ch') fun h => rvsK t h res fun vs => resK vs fun v => finK n fz df ch v h) h)
      exD body cal t (Hp.mk b n er eq fz [] false) kr kr fun _ _ _ => none) (fN n.n fun m =>
        let kr : KT := (fun t h => Hp.rec (fun b' n' er' eq' fz' df' ch' => List.rec (rvsK t h res fun vs => resK vs fun v => onB (v.ok m) (some (v, h)) none) (fun _ _ _ => none) df') h)
        onO (exD body cal t (Hp.mk b n er eq m [] true) kr kr fun _ _ _ => none) fun r => Prod.rec (fun v h => Hp.rec (fun b _ er eq _ _ _ => onB (or (Nat.ble m er) (Nat.blt eq m)) (some (v, Hp.mk b n er eq fz df ch)) none) h) r) fr) h) (gtF f prog)
noncomputable def bindK (ps : List Pth) : List V → T → (T → Ans) → Ans :=
  List.rec (motive := fun _ => List V → T → (T → Ans) → Ans) (fun vs t c => List.rec (c t) (fun _ _ _ => none) vs) (fun p _ ih vs t c => List.rec none (fun v vs _ => stK vu p t v fun t => ih vs t c) vs) ps
noncomputable def noK : KT := fun _ _ => none
noncomputable def rndE (n : Pth) (fz : Nat) (df : List DF) (ch : Bool) (r : Pth) (st : Nat) (e : Option (Option Nat)) (q : Bool) (h : Hp) : Ans :=
  lpK (h.gb r) fun t ps asg body _ _ => h.setK r (.lp t ps asg body st e) fun h => Hp.rec (fun b' n' er' eq' fz' df' ch' => finK n fz df ch (.s (.b q)) (Hp.mk b' n' er' eq' fz' [] ch')) h
noncomputable def rndF (cal : Cal) (r : Pth) (args : List V) (h : Hp) : Ans :=
  Hp.rec (fun b n er eq fz df ch => lpK (gtB r b) fun t ps asg body st pend => onB (Nat.beq st 0)
    (bindK ps args t fun t1 => exD asg cal t1 (Hp.mk b n er eq fz [] false)
      (fun t2 h2 => lpK (h2.gb r) fun t ps asg body' st pend => onB (Nat.beq st 0) (h2.setK r (.lp t ps asg body' 1 pend) fun h2 =>
        exD body cal t2 h2 (fun _ h => rndE n fz df ch r 0 none true h) (fun _ h => rndE n fz df ch r 2 (some none) false h) fun id _ h => rndE n fz df ch r 2 (some (some id)) false h) none) noK fun _ => noK) none) h
noncomputable def capV (cs : List (Pth × Nat)) : List V := List.rec [] (fun x _ ih => Prod.rec (fun r o => .s (.p r o) :: ih) x) cs
noncomputable def apV (a b : List V) : List V := List.rec b (fun x _ ih => x :: ih) a
noncomputable def calS (prog : Tr FJ) (cal : Cal) (s : S) (args : List V) (h : Hp) : Ans :=
  S.rec (fun _ => none) (fun _ _ => none) (fun _ _ => none) none (fun _ _ _ _ => none) none (fun _ _ => none) (fun f cs => runF prog cal f (List.rec args (fun c cs _ => apV args (capV (c :: cs))) cs) h) (fun f q r o => runF prog cal f (Bool.rec (.s (.p r o)) (.agg [.p r o]) q :: args) h) none (fun _ => none) (fun _ => none) none (fun r => rndF cal r args h) none (fun _ _ => none) s
noncomputable def calN (prog : Tr FJ) (n : Nat) : Cal := Nat.rec (motive := fun _ => Cal) (fun _ _ _ => none) (fun _ ih s args h => calS prog ih s args h) n
end Go.E
