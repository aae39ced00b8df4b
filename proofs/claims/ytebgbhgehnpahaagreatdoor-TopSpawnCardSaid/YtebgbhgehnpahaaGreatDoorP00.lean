/- A part of the proof of the claim that the last text of this folder states. -/
import Derived.WalkKit
import Derived.Deep.Quiet
import Derived.StillTail
namespace Go.E
set_option linter.all false
inductive D8 where
  | a | b | c | d | e | f | g | h
  deriving DecidableEq
noncomputable def D8.v (i : D8) : Nat := D8.rec 0 1 2 3 4 5 6 7 i
theorem D8.lt (i : D8) : i.v < 8 := by cases i <;> decide
theorem D8.inj : ∀ {i j : D8}, i.v = j.v → i = j := by
  intro i j h
  cases i <;> cases j <;> first | rfl | exact absurd h (by decide)
inductive Pth where
  | s (i j : D8)
  | t (i j k : D8)
  | o (n : Nat)
  deriving DecidableEq
abbrev Pth.z : Pth := .s .a .a
noncomputable def Pth.n (p : Pth) : Nat := Pth.rec (fun i j => Nat.add (Nat.mul 8 i.v) j.v) (fun i j k => Nat.add 64 (Nat.add (Nat.mul 64 i.v) (Nat.add (Nat.mul 8 j.v) k.v))) (fun n => Nat.add 576 n) p
theorem Pth.n_z : Pth.z.n = 0 := rfl
theorem Pth.n_s (i j : D8) : (Pth.s i j).n = 8 * i.v + j.v := rfl
theorem Pth.n_t (i j k : D8) : (Pth.t i j k).n = 64 + (64 * i.v + (8 * j.v + k.v)) := rfl
theorem Pth.n_o (n : Nat) : (Pth.o n).n = 576 + n := rfl
def D8.nx : D8 → Option D8
  | .a => some .b
  | .b => some .c
  | .c => some .d
  | .d => some .e
  | .e => some .f
  | .f => some .g
  | .g => some .h
  | .h => none
def Pth.succ : Pth → Pth
  | .s i j => match j.nx with
    | some j => .s i j
    | none => match i.nx with
      | some i => .s i .a
      | none => .t .a .a .a
  | .t i j k => match k.nx with
    | some k => .t i j k
    | none => match j.nx with
      | some j => .t i j .a
      | none => match i.nx with
        | some i => .t i .a .a
        | none => .o 0
  | .o n => .o (n + 1)
noncomputable def D8.nxK {β : Type} (i : D8) (k : D8 → β) (z : β) : β := D8.rec (k .b) (k .c) (k .d) (k .e) (k .f) (k .g) (k .h) z i
noncomputable def Pth.succK {β : Type} (p : Pth) (k : Pth → β) : β := Pth.rec (fun i j => j.nxK (fun j => k (.s i j)) (i.nxK (fun i => k (.s i .a)) (k (.t .a .a .a))))
  (fun i j l => l.nxK (fun l => k (.t i j l)) (j.nxK (fun j => k (.t i j .a)) (i.nxK (fun i => k (.t i .a .a)) (k (.o 0))))) (fun n => k (.o (Nat.succ n))) p
theorem Pth.succK_eq {β : Type} (p : Pth) (k : Pth → β) : p.succK k = k p.succ := by
  cases p with
  | s i j => cases j <;> first | rfl | (cases i <;> rfl)
  | t i j l => cases l <;> first | rfl | (cases j <;> first | rfl | (cases i <;> rfl))
  | o n => rfl
theorem D8.nx_some {i j : D8} (h : i.nx = some j) : j.v = i.v + 1 := by cases i <;> cases h <;> rfl
theorem D8.nx_none {i : D8} (h : i.nx = none) : i.v = 7 := by cases i <;> cases h <;> rfl
theorem Pth.succ_n (p : Pth) : p.succ.n = p.n + 1 := by
  have h2 : D8.a.v = 0 := rfl
  cases p with
  | s i j =>
    cases hj : j.nx with
    | some j' => have := D8.nx_some hj; simp only [Pth.succ, hj, Pth.n_s]; omega
    | none =>
      have h1 := D8.nx_none hj
      cases hi : i.nx with
      | some i' => have := D8.nx_some hi; simp only [Pth.succ, hj, hi, Pth.n_s]; omega
      | none => have := D8.nx_none hi; simp only [Pth.succ, hj, hi, Pth.n_s, Pth.n_t]; omega
  | t i j k =>
    cases hk : k.nx with
    | some k' => have := D8.nx_some hk; simp only [Pth.succ, hk, Pth.n_t]; omega
    | none =>
      have h1 := D8.nx_none hk
      cases hj : j.nx with
      | some j' => have := D8.nx_some hj; simp only [Pth.succ, hk, hj, Pth.n_t]; omega
      | none =>
        have h3 := D8.nx_none hj
        cases hi : i.nx with
        | some i' => have := D8.nx_some hi; simp only [Pth.succ, hk, hj, hi, Pth.n_t]; omega
        | none => have := D8.nx_none hi; simp only [Pth.succ, hk, hj, hi, Pth.n_t, Pth.n_o]; omega
  | o n => show 576 + (n + 1) = 576 + n + 1; omega
theorem Pth.inj {p q : Pth} (h : p.n = q.n) : p = q := by
  cases p with
  | s i j =>
    have h1 := i.lt; have h2 := j.lt
    cases q with
    | s i' j' => have h3 := i'.lt; have h4 := j'.lt; simp only [Pth.n_s] at h; rw [D8.inj (i := i) (j := i') (by omega), D8.inj (i := j) (j := j') (by omega)]
    | t i' j' k' => simp only [Pth.n_s, Pth.n_t] at h; omega
    | o n => simp only [Pth.n_s, Pth.n_o] at h; omega
  | t i j k =>
    have h1 := i.lt; have h2 := j.lt; have h5 := k.lt
    cases q with
    | s i' j' => have h3 := i'.lt; have h4 := j'.lt; simp only [Pth.n_s, Pth.n_t] at h; omega
    | t i' j' k' =>
      have h3 := i'.lt; have h4 := j'.lt; have h6 := k'.lt
      simp only [Pth.n_t] at h
      rw [D8.inj (i := i) (j := i') (by omega), D8.inj (i := j) (j := j') (by omega), D8.inj (i := k) (j := k') (by omega)]
    | o n => simp only [Pth.n_t, Pth.n_o] at h; omega
  | o m =>
    cases q with
    | s i' j' => have h3 := i'.lt; have h4 := j'.lt; simp only [Pth.n_s, Pth.n_o] at h; omega
    | t i' j' k' => have h3 := i'.lt; have h4 := j'.lt; have h6 := k'.lt; simp only [Pth.n_t, Pth.n_o] at h; omega
    | o n => simp only [Pth.n_o] at h; rw [show m = n by omega]
theorem Pth.n_inj {p q : Pth} : p.n = q.n ↔ p = q := ⟨Pth.inj, fun h => by rw [h]⟩
def Pth.of : Nat → Pth
  | 0 => .z
  | n + 1 => (Pth.of n).succ
theorem Pth.of_n : ∀ k, (Pth.of k).n = k
  | 0 => rfl
  | k + 1 => by rw [Pth.of, Pth.succ_n, Pth.of_n k]
theorem Pth.of_of (p : Pth) : Pth.of p.n = p := Pth.inj (Pth.of_n _)
structure N8 (α : Type) where
  x0 : α
  x1 : α
  x2 : α
  x3 : α
  x4 : α
  x5 : α
  x6 : α
  x7 : α
def e8 {α : Type} (x : α) : N8 α := ⟨x, x, x, x, x, x, x, x⟩
noncomputable def N8.g {α : Type} (i : D8) : N8 α → α := D8.rec (motive := fun _ => N8 α → α) N8.x0 N8.x1 N8.x2 N8.x3 N8.x4 N8.x5 N8.x6 N8.x7 i
def N8.u {α : Type} (i : D8) (f : α → α) (x : N8 α) : N8 α := match i with
  | .a => { x with x0 := f x.x0 }
  | .b => { x with x1 := f x.x1 }
  | .c => { x with x2 := f x.x2 }
  | .d => { x with x3 := f x.x3 }
  | .e => { x with x4 := f x.x4 }
  | .f => { x with x5 := f x.x5 }
  | .g => { x with x6 := f x.x6 }
  | .h => { x with x7 := f x.x7 }
theorem N8.g_u {α : Type} (i j : D8) (f : α → α) (x : N8 α) : (x.u i f).g j = if j = i then f (x.g i) else x.g j := by cases i <;> cases j <;> rfl
theorem N8.g_e8 {α : Type} (i : D8) (x : α) : (e8 x).g i = x := by cases i <;> rfl
structure Tr (α : Type) where
  s : N8 (N8 α)
  t : N8 (N8 (N8 α))
  o : List (Nat × α)
section
variable {α : Type} (d : α)
def Tr.e : Tr α := ⟨e8 (e8 d), e8 (e8 (e8 d)), []⟩
noncomputable def lkF (n : Nat) (l : List (Nat × α)) : α := List.rec d (fun x _ ih => Prod.rec (fun m x => Bool.rec ih x (Nat.beq n m)) x) l
theorem lkF_cons (n m : Nat) (x : α) (l : List (Nat × α)) : lkF d n ((m, x) :: l) = if n = m then x else lkF d n l := by
  show (Bool.rec (lkF d n l) x (Nat.beq n m) : α) = _
  by_cases h : n = m
  · subst h; rw [if_pos rfl, Nat.beq_refl n]
  · rw [if_neg h]
    cases c : Nat.beq n m with
    | false => rfl
    | true => exact absurd (Nat.eq_of_beq_eq_true c) h
noncomputable def gt (p : Pth) : Tr α → α := Pth.rec (motive := fun _ => Tr α → α) (fun i j t => N8.g j (N8.g i t.s)) (fun i j k t => N8.g k (N8.g j (N8.g i t.t))) (fun n t => lkF d n t.o) p
def st (_d : α) (p : Pth) (v : α) (t : Tr α) : Tr α := match p with
  | .s i j => { t with s := t.s.u i (N8.u j fun _ => v) }
  | .t i j k => { t with t := t.t.u i (N8.u j (N8.u k fun _ => v)) }
  | .o n => { t with o := (n, v) :: t.o }
theorem gt_e (p : Pth) : gt d p (Tr.e d) = d := by
  cases p with
  | s i j => show ((e8 (e8 d)).g i).g j = d; rw [N8.g_e8, N8.g_e8]
  | t i j k => show (((e8 (e8 (e8 d))).g i).g j).g k = d; rw [N8.g_e8, N8.g_e8, N8.g_e8]
  | o n => rfl
theorem gt_st (p q : Pth) (v : α) (t : Tr α) : gt d q (st d p v t) = if q = p then v else gt d q t := by
  cases p with
  | s i j =>
    cases q with
    | s i' j' =>
      show ((t.s.u i (N8.u j fun _ => v)).g i').g j' = if Pth.s i' j' = .s i j then v else (t.s.g i').g j'
      rw [N8.g_u]
      by_cases h1 : i' = i
      · subst h1
        rw [if_pos rfl, N8.g_u]
        by_cases h2 : j' = j
        · rw [if_pos h2, if_pos (by rw [h2])]
        · rw [if_neg h2, if_neg (by simp [h2])]
      · rw [if_neg h1, if_neg (by simp [h1])]
    | t _ _ _ => rw [if_neg (by simp)]; rfl
    | o _ => rw [if_neg (by simp)]; rfl
  | t i j k =>
    cases q with
    | s _ _ => rw [if_neg (by simp)]; rfl
    | t i' j' k' =>
      show (((t.t.u i (N8.u j (N8.u k fun _ => v))).g i').g j').g k' = if Pth.t i' j' k' = .t i j k then v else ((t.t.g i').g j').g k'
      rw [N8.g_u]
      by_cases h1 : i' = i
      · subst h1
        rw [if_pos rfl, N8.g_u]
        by_cases h2 : j' = j
        · subst h2
          rw [if_pos rfl, N8.g_u]
          by_cases h3 : k' = k
          · rw [if_pos h3, if_pos (by rw [h3])]
          · rw [if_neg h3, if_neg (by simp [h3])]
        · rw [if_neg h2, if_neg (by simp [h2])]
      · rw [if_neg h1, if_neg (by simp [h1])]
    | o _ => rw [if_neg (by simp)]; rfl
  | o n =>
    cases q with
    | s _ _ => rw [if_neg (by simp)]; rfl
    | t _ _ _ => rw [if_neg (by simp)]; rfl
    | o m =>
      show lkF d m ((n, v) :: t.o) = _
      rw [lkF_cons]
      by_cases h : m = n
      · rw [if_pos h, if_pos (by rw [h])]
      · rw [if_neg h, if_neg (by simp [h])]; rfl
end
inductive S where
  | b (x : Bool)
  | i (k : IntKind) (n : Int)
  | p (r : Pth) (o : Nat)
  | np
  | sl (r : Pth) (o len cap : Nat)
  | ns
  | es (a : Addr) (cap : Nat)
  | fn (f : Pth) (cs : List (Pth × Nat))
  | fm (f : Pth) (q : Bool) (r : Pth) (o : Nat)
  | nf
  | st (l : List Nat)
  | mp (r : Pth)
  | nm
  | yl (r : Pth)
  | ub
  | sg (r : Pth) (n : Nat)
inductive C where
  | s (x : S)
  | agg (xs : List S)
inductive V where
  | s (x : S)
  | agg (xs : List S)
  | tup (xs : List C)
  | u
inductive O where
  | t (p : Pth)
  | k (v : V)
inductive J where
  | mv (x : O)
  | pick (c a b : O)
  | new (z : List S)
  | box (x : O)
  | build (z : List S) (parts : List (Nat × Nat × O))
  | bsl (n : Nat) (z : List S) (parts : List (Nat × Nat × O))
  | ld (a : O)
  | ldn (a : O) (n : Nat)
  | st (a x : O) (n : Nat)
  | nil (x : O)
  | bin (op : BinOp) (x y : O)
  | eqb (neg : Bool) (x y : O)
  | eqa (neg : Bool) (ks : List Bool) (x y : O)
  | eqn (kd : Nat) (neg : Bool) (x : O)
  | un (op : UnOp) (x : O)
  | conv (k : IntKind) (x : O)
  | mkf (f : Pth) (caps : List O)
  | mkm (f : Pth) (x : O)
  | mks (esize bytes : Nat) (zero : List S) (len cap : O)
  | slc (arr : Option Nat) (esize : Nat) (x : O) (lo hi mx : Option O)
  | fa (x : O) (off : Nat)
  | fld (x : O) (off : Nat) (n : Option Nat)
  | ia (arr : Option Nat) (esize : Nat) (x i : O)
  | ix (len esize : Nat) (n : Option Nat) (x i : O)
  | ixs (x i : O)
  | ext (x : O) (j : Nat)
  | call (f : Pth) (args : List O)
  | callv (f : O) (args : List O)
  | len (x : O)
  | lenm (x : O)
  | app (esize bytes : Nat) (x y : O)
  | cpy (esize : Nat) (x y : O)
  | mx (isMax : Bool) (x y : O)
  | arr (n : Nat) (x : O)
  | mkmap
  | lk (ok : Bool) (ks : List Bool) (z : V) (m k : O)
  | up (ks : List Bool) (m k v : O)
  | rng (x : O)
  | nxt (x : O)
  | ent (x : O)
  | dfr (f : Pth) (args : List O)
inductive GJ where
  | g (d : Option Pth) (op : J)
  | c (d : Option Pth) (op : J) (j : Pth) (w : Bool)
inductive XJ where
  | lt (g : GJ)
  | hv (g : GJ) (chk : List GJ)
inductive DJ where
  | skip
  | reg (l : List GJ)
  | drw (l : List XJ)
  | seq (a b : DJ)
  | cond (x : O) (a b : DJ)
  | block (id : Nat) (c : DJ)
  | loop (c : DJ)
  | exit (id : Nat)
  | ret
  | rf (g : O) (ps : List Pth) (asg body : DJ)
  | drm (l : List XJ) (m : O) (es : List GJ)
inductive RV where
  | t (p : Pth)
  | c (a : Pth) (n : Option Nat)
structure FJ where
  fz : Bool
  body : DJ
  res : List RV
abbrev T := Tr V
def vu : V := .tup []
structure Env where
  σ : Pth → Nat × Nat
  δ : Pth → Nat
  ρ : Nat → Int
  β : Nat
  κ : Nat → Code → DJ → Prop
def adr (e : Env) (r : Pth) (o : Nat) : Addr := ⟨(e.σ r).1, (e.σ r).2 + o, none⟩
def G : Nat := 1152921504606846976
def symN : Nat := 340282366920938463463374607431768211456
def gN : Nat := 6277101735386680763835789423207666416102355444464034512896
def qN : Nat := 25108406941546723055343157692830665664409421777856138051584
def q2N : Nat := 411376139330301510538742295639337626245683966408394965837152256
def unkN : Nat := 1766847064778384329583297500742918515827483896875618958121606201292619776
noncomputable def sC (n : Nat) : Nat := Nat.mod n 18446744073709551616
noncomputable def sU (n : Nat) : Nat := Nat.sub (Nat.div n 18446744073709551616) 1
noncomputable def sQ (n : Nat) : Nat := Nat.mod (sU n) 64
noncomputable def sM (n : Nat) : Nat := Nat.mod (Nat.div (sU n) 64) 2
noncomputable def sJ (n : Nat) : Nat := Nat.div (sU n) 128
noncomputable def cls (j a b c d e f g h : Nat) : Nat := Bool.rec (Bool.rec (Bool.rec (Bool.rec (Bool.rec (Bool.rec (Bool.rec h g (Nat.blt j 112)) f (Nat.blt j 96)) e (Nat.blt j 80)) d (Nat.blt j 64)) c (Nat.blt j 48)) b (Nat.blt j 32)) a (Nat.blt j 16)
noncomputable def sWd (j : Nat) : Nat := cls j 28 8 7 3 5 4 4 3
noncomputable def sMk (j : Nat) : Nat := cls j 268435455 255 127 7 31 15 15 7
noncomputable def sBd (j : Nat) : Nat := cls j 268435455 255 119 6 29 15 8 6
noncomputable def sLb (j : Nat) : Nat := cls j 1 0 0 1 0 0 0 0
theorem cls_all {P : Nat → Nat → Nat → Nat → Prop} {j : Nat} {a b c d e f g h a' b' c' d' e' f' g' h' a2 b2 c2 d2 e2 f2 g2 h2 a3 b3 c3 d3 e3 f3 g3 h3 : Nat} (k : P a a' a2 a3 ∧ P b b' b2 b3 ∧ P c c' c2 c3 ∧ P d d' d2 d3 ∧ P e e' e2 e3 ∧ P f f' f2 f3 ∧ P g g' g2 g3 ∧ P h h' h2 h3) : P (cls j a b c d e f g h) (cls j a' b' c' d' e' f' g' h') (cls j a2 b2 c2 d2 e2 f2 g2 h2) (cls j a3 b3 c3 d3 e3 f3 g3 h3) := by
  obtain ⟨k1, k2, k3, k4, k5, k6, k7, k8⟩ := k
  unfold cls
  cases Nat.blt j 16 with
  | true => exact k1
  | false => cases Nat.blt j 32 with
    | true => exact k2
    | false => cases Nat.blt j 48 with
      | true => exact k3
      | false => cases Nat.blt j 64 with
        | true => exact k4
        | false => cases Nat.blt j 80 with
          | true => exact k5
          | false => cases Nat.blt j 96 with
            | true => exact k6
            | false => cases Nat.blt j 112 with
              | true => exact k7
              | false => exact k8
noncomputable def fval (ρ : Nat → Int) (j : Nat) : Nat := ((ρ j).toNat - sLb j) % (sBd j + 1 - sLb j) + sLb j
noncomputable def fsy (ρ : Nat → Int) (n : Nat) : Nat := sC n + fval ρ (sJ n) * 2 ^ sQ n - sM n
noncomputable def selV (ρ : Nat → Int) (n : Nat) : Nat :=
  if n / 79228162514264337593543950336 % 4 = 0 then (if fval ρ 16 = n / 18446744073709551616 % 4294967296 then sC n else 0)
  else if n / 79228162514264337593543950336 % 4 = 1 then (if fval ρ 16 / 64 = n / 18446744073709551616 % 4294967296 then 2 ^ (fval ρ 16 % 64) else 0)
  else 2 ^ (fval ρ 16 / 64)
noncomputable def selW (ρ : Nat → Int) (n : Nat) : Int :=
  if n / 79228162514264337593543950336 % 4 = 0 then (if fval ρ (n / 5846006549323611672814739330865132078623730171904 % 256) = n / 18446744073709551616 % 4294967296 then ((sC n : Nat) : Int) else ((sC (n / 316912650057057350374175801344) : Nat) : Int))
  else if n / 79228162514264337593543950336 % 4 = 1 then (if fval ρ (n / 5846006549323611672814739330865132078623730171904 % 256) = n / 18446744073709551616 % 4294967296 then ρ (sC n) else ((sC (n / 316912650057057350374175801344) : Nat) : Int))
  else ((sC (n / 316912650057057350374175801344) + 2 ^ fval ρ (n / 5846006549323611672814739330865132078623730171904 % 256) : Nat) : Int)
noncomputable def vl (e : Env) (n : Int) : Int :=
  if 18446744073709551616 ≤ n then (if (symN : Int) ≤ n then (if (gN : Int) ≤ n then (if (qN : Int) ≤ n then (if (q2N : Int) ≤ n then selW e.ρ n.toNat else (selV e.ρ n.toNat : Int)) else (Nat.max (sC n.toNat) (e.ρ 100).toNat : Nat)) else e.ρ (n.toNat - symN)) else (fsy e.ρ n.toNat : Int)) else n
def kn (n : Int) : Bool := match n with
  | .ofNat m => Nat.blt m unkN
  | .negSucc _ => true
def cpT (e : Env) (r : Pth) (c : Nat) : Nat := if c < G then c else c - G + e.δ r
noncomputable def sgN (ρ : Nat → Int) (n : Nat) : Nat := Bool.rec (Nat.mod n 4294967296) (Nat.max n (ρ 100).toNat) (Nat.blt n 4294967296)
noncomputable def S.tr (e : Env) : S → Value
  | .b x => .bool x
  | .i k n => .int k (vl e n)
  | .p r o => .pointer (some (adr e r o))
  | .np => .pointer none
  | .sl r o n c => .slice (some (adr e r o)) n (cpT e r c)
  | .ns => .slice none 0 0
  | .es a c => .slice (some a) 0 c
  | .fn f cs => .func (.func f.n) #[] (cs.map fun x => Value.pointer (some (adr e x.1 x.2))).toArray
  | .fm f q r o => .func (.func f.n) #[if q then .agg #[.pointer (some (adr e r o))] else .pointer (some (adr e r o))] #[]
  | .nf => .nilFunc
  | .st l => .string ⟨(l.map UInt8.ofNat).toArray⟩
  | .mp r => .map (some (e.σ r).1)
  | .nm => .map none
  | .yl r => .func (.yield (e.σ r).1) #[] #[]
  | .ub => .bool false
  | .sg r n => .slice (some (adr e r 0)) (sgN e.ρ n) (sgN e.ρ n + (e.ρ 101).toNat)
noncomputable def trs (e : Env) (xs : List S) : Array Value := (xs.map (S.tr e)).toArray
noncomputable def C.tr (e : Env) : C → Value
  | .s x => x.tr e
  | .agg xs => .agg (trs e xs)
noncomputable def V.tr (e : Env) : V → Value
  | .s x => x.tr e
  | .agg xs => .agg (trs e xs)
  | .tup cs => .tuple (cs.map (C.tr e)).toArray
  | .u => .tuple #[]
def S.rf (f : Pth → Bool) : S → Bool
  | .i _ n => kn n
  | .p r _ => f r
  | .sl r _ _ _ => f r
  | .fn _ cs => cs.all fun x => f x.1
  | .fm _ _ r _ => f r
  | .mp r => f r
  | .yl r => f r
  | .ub => false
  | .sg r _ => f r
  | _ => true
def C.rf (f : Pth → Bool) : C → Bool
  | .s x => x.rf f
  | .agg xs => xs.all (S.rf f)
def V.rf (f : Pth → Bool) : V → Bool
  | .s (.i _ _) => true
  | .s .ub => true
  | .s x => x.rf f
  | .agg xs => xs.all (S.rf f)
  | .tup cs => cs.all (C.rf f)
  | .u => true
def V.rk (f : Pth → Bool) : V → Bool
  | .s x => x.rf f
  | v => v.rf f
noncomputable def Tr.rf (f : Pth → Bool) (t : T) : Bool := @decide (∀ p, (gt vu p t).rf f = true) (Classical.propDecidable _)
theorem Tr.rf_iff {f : Pth → Bool} {t : T} : t.rf f = true ↔ ∀ p, (gt vu p t).rf f = true := by
  unfold Tr.rf
  exact @decide_eq_true_iff _ (Classical.propDecidable _)
noncomputable def Pth.ok (n : Nat) (p : Pth) : Bool := Nat.blt p.n n
noncomputable abbrev S.ok (n : Nat) (s : S) : Bool := s.rf (Pth.ok n)
noncomputable abbrev oks (n : Nat) (xs : List S) : Bool := xs.all (S.rf (Pth.ok n))
noncomputable abbrev C.ok (n : Nat) (c : C) : Bool := c.rf (Pth.ok n)
noncomputable abbrev V.ok (n : Nat) (v : V) : Bool := v.rf (Pth.ok n)
theorem V.rf_iff {f : Pth → Bool} {s : S} : (V.s s).rf f = true ↔ ((((∃ k n, s = .i k n) ∨ s = .ub)) ∨ s.rf f = true) := by cases s <;> simp [V.rf, S.rf]
theorem V.rk_rf {f : Pth → Bool} {v : V} (h : v.rk f = true) : v.rf f = true := by
  cases v with
  | s x => exact V.rf_iff.2 (.inr h)
  | _ => exact h
theorem Pth.ok_iff {n : Nat} {p : Pth} : p.ok n = true ↔ p.n < n := by simp [Pth.ok, Nat.blt_eq]
section
variable {f g : Pth → Bool} (hfg : ∀ p, f p = true → g p = true)
include hfg
theorem S.rf_mono {s : S} (h : s.rf f = true) : s.rf g = true := by
  cases s with
  | i k n => exact h
  | p r o => exact hfg r h
  | sl r o a c => exact hfg r h
  | fn k cs => simp only [S.rf, List.all_eq_true] at *; exact fun x hx => hfg _ (h x hx)
  | fm k q r o => exact hfg r h
  | mp r => exact hfg r h
  | yl r => exact hfg r h
  | ub => cases h
  | sg r n => exact hfg r h
  | _ => rfl
theorem ss_mono {xs : List S} (h : xs.all (S.rf f) = true) : xs.all (S.rf g) = true := by
  simp only [List.all_eq_true] at *; exact fun x hx => S.rf_mono hfg (h x hx)
theorem C.rf_mono {c : C} (h : c.rf f = true) : c.rf g = true := by
  cases c with
  | s x => exact S.rf_mono hfg h
  | agg xs => exact ss_mono hfg h
theorem V.rf_mono {v : V} (h : v.rf f = true) : v.rf g = true := by
  cases v with
  | s x =>
    rcases V.rf_iff.1 h with (⟨k, n, rfl⟩ | rfl) | h
    · rfl
    · rfl
    · exact V.rf_iff.2 (.inr (S.rf_mono hfg h))
  | agg xs => exact ss_mono hfg h
  | tup cs => simp only [V.rf, List.all_eq_true] at *; exact fun x hx => C.rf_mono hfg (h x hx)
  | u => rfl
theorem V.rk_mono {v : V} (h : v.rk f = true) : v.rk g = true := by
  cases v with
  | s x => exact S.rf_mono hfg h
  | agg xs => exact V.rf_mono hfg (v := .agg xs) h
  | tup xs => exact V.rf_mono hfg (v := .tup xs) h
  | u => rfl
theorem Tr.rf_mono {t : T} (h : t.rf f = true) : t.rf g = true := Tr.rf_iff.2 fun p => V.rf_mono hfg (Tr.rf_iff.1 h p)
end
theorem Tr.rf_gt {f : Pth → Bool} {t : T} {p : Pth} (h : t.rf f = true) : (gt vu p t).rf f = true := Tr.rf_iff.1 h p
theorem Tr.rf_st {f : Pth → Bool} {t : T} {p : Pth} {v : V} (h : t.rf f = true) (hv : v.rf f = true) : (st vu p v t).rf f = true := Tr.rf_iff.2 fun q => by
  rw [gt_st]
  split
  · exact hv
  · exact Tr.rf_gt h
theorem Tr.rf_e {f : Pth → Bool} : (Tr.e vu : T).rf f = true := Tr.rf_iff.2 fun q => by rw [gt_e]; rfl
inductive Wt where
  | mk (m : Nat) (o : List (Nat × Int))
def wrd (m i : Nat) : Nat := Nat.mod (Nat.shiftRight m (Nat.mul 64 i)) 18446744073709551616
def wput (m i n : Nat) : Nat := Nat.xor m (Nat.shiftLeft (Nat.xor n (wrd m i)) (Nat.mul 64 i))
theorem wrd_lt (m i : Nat) : wrd m i < 18446744073709551616 := Nat.mod_lt _ (by decide)
theorem wrd_bit (m i b : Nat) : (wrd m i).testBit b = (decide (b < 64) && m.testBit (64 * i + b)) := by
  show ((m >>> (64 * i)) % 2 ^ 64).testBit b = _
  rw [Nat.testBit_mod_two_pow, Nat.testBit_shiftRight]
theorem wrd_wput {m i j n : Nat} (hn : n < 18446744073709551616) : wrd (wput m i n) j = if j = i then n else wrd m j := by
  have hx : n ^^^ wrd m i < 2 ^ 64 := Nat.xor_lt_two_pow hn (wrd_lt m i)
  apply Nat.eq_of_testBit_eq
  intro b
  rw [wrd_bit]
  show (decide (b < 64) && (m ^^^ ((n ^^^ wrd m i) <<< (64 * i))).testBit (64 * j + b)) = _
  rw [Nat.testBit_xor, Nat.testBit_shiftLeft]
  by_cases hb : b < 64
  · by_cases h : j = i
    · subst h
      rw [if_pos rfl, Nat.testBit_xor, show 64 * j + b - 64 * j = b by omega, wrd_bit]
      simp [hb, show 64 * j ≤ 64 * j + b by omega]
      cases m.testBit (64 * j + b) <;> cases n.testBit b <;> rfl
    · rw [if_neg h, wrd_bit]
      have h0 : (decide (64 * j + b ≥ 64 * i) && (n ^^^ wrd m i).testBit (64 * j + b - 64 * i)) = false := by
        by_cases h1 : 64 * j + b ≥ 64 * i
        · have : (n ^^^ wrd m i).testBit (64 * j + b - 64 * i) = false := Nat.testBit_lt_two_pow (Nat.lt_of_lt_of_le hx (Nat.pow_le_pow_right (by decide) (by omega)))
          rw [this, Bool.and_false]
        · simp [h1]
      rw [h0, Bool.xor_false]
  · have h2 : (if j = i then n else wrd m j).testBit b = false := by
      have : (if j = i then n else wrd m j) < 2 ^ 64 := by split; exact hn; exact wrd_lt m j
      exact Nat.testBit_lt_two_pow (Nat.lt_of_lt_of_le this (Nat.pow_le_pow_right (by decide) (by omega)))
    rw [h2]; simp [hb]
def wlk : List (Nat × Int) → Nat → Option Int
  | [], _ => none
  | (j, x) :: l, i => if i = j then some x else wlk l i
def wrm : List (Nat × Int) → Nat → List (Nat × Int)
  | [], _ => []
  | (j, x) :: l, i => if i = j then wrm l i else (j, x) :: wrm l i
theorem wlk_wrm : ∀ (l : List (Nat × Int)) (i j : Nat), wlk (wrm l i) j = if j = i then none else wlk l j
  | [], i, j => by simp [wrm, wlk]
  | (k, x) :: l, i, j => by
    simp only [wrm]
    split
    · rename_i h
      rw [wlk_wrm l i j]
      by_cases h1 : j = i
      · rw [if_pos h1, if_pos h1]
      · rw [if_neg h1, if_neg h1, wlk, if_neg (by omega)]
    · rename_i h
      rw [wlk, wlk_wrm l i j]
      by_cases h2 : j = k
      · rw [if_pos h2, if_neg (by omega), wlk, if_pos h2]
      · rw [if_neg h2, wlk, if_neg h2]
def wins : List (Nat × Int) → Nat → Int → List (Nat × Int)
  | [], i, x => [(i, x)]
  | (j, y) :: l, i, x => if i < j then (i, x) :: (j, y) :: l else if i = j then (i, x) :: l else (j, y) :: wins l i x
theorem wlk_wins : ∀ (l : List (Nat × Int)) (i : Nat) (x : Int) (j : Nat), wlk (wins l i x) j = if j = i then some x else wlk l j
  | [], i, x, j => by simp [wins, wlk]
  | (k, y) :: l, i, x, j => by
    simp only [wins]
    split
    · rfl
    · split
      · rename_i h
        subst h
        simp only [wlk]
        by_cases h1 : j = i
        · rw [if_pos h1, if_pos h1]
        · rw [if_neg h1, if_neg h1, if_neg h1]
      · rename_i h
        rw [wlk, wlk_wins l i x j]
        by_cases h1 : j = i
        · rw [if_pos h1, if_neg (by omega), if_pos h1]
        · rw [if_neg h1, if_neg h1, wlk]
theorem wins_kns : ∀ {o : List (Nat × Int)} {i : Nat} {x : Int}, (o.all fun x => kn x.2) = true → kn x = true → ((wins o i x).all fun x => kn x.2) = true
  | [], i, x, _, hx => by simp [wins, hx]
  | (j, y) :: o, i, x, h, hx => by
    have h' := h
    simp only [List.all_cons, Bool.and_eq_true] at h
    simp only [wins]
    split
    · simp only [List.all_cons, Bool.and_eq_true]; exact ⟨hx, h⟩
    · split
      · simp only [List.all_cons, Bool.and_eq_true]; exact ⟨hx, h.2⟩
      · simp only [List.all_cons, Bool.and_eq_true]; exact ⟨h.1, wins_kns h.2 hx⟩
def wg : Wt → Nat → Int
  | .mk m o, i => match wlk o i with
    | some x => x
    | none => .ofNat (wrd m i)
def wst : Wt → Nat → Int → Wt
  | .mk m o, i, x => match x with
    | .ofNat n => if n < 18446744073709551616 then .mk (wput m i n) (wrm o i) else .mk (wput m i 0) (wins o i (.ofNat n))
    | .negSucc n => .mk (wput m i 0) (wins o i (.negSucc n))
def Wt.deep (_ : Nat) (_ : Wt) : Prop := True
theorem wg_wst {n : Nat} {t : Wt} {i j : Nat} (x : Int) (_ : t.deep n) (_ : i < 2 ^ n) (_ : j < 2 ^ n) : wg (wst t i x) j = if j = i then x else wg t j := by
  obtain ⟨m, o⟩ := t
  have hc : ∀ y : Int, wg (.mk (wput m i 0) (wins o i y)) j = if j = i then y else wg (.mk m o) j := fun y => by
    simp only [wg, wlk_wins, wrd_wput (show 0 < 18446744073709551616 by decide)]
    by_cases h : j = i
    · simp only [if_pos h]
    · simp only [if_neg h]
  cases x with
  | negSucc n => exact hc _
  | ofNat n =>
    simp only [wst]
    split
    · rename_i hn
      simp only [wg, wlk_wrm]
      by_cases h : j = i
      · rw [if_pos h, if_pos h, wrd_wput hn, if_pos h]
      · rw [if_neg h, if_neg h, wrd_wput hn, if_neg h]
    · exact hc _
def Wt.kns : Wt → Bool
  | .mk _ o => o.all fun x => kn x.2
theorem kn_word {n : Nat} (h : n < 18446744073709551616) : kn (.ofNat n) = true := by
  show Nat.blt n unkN = true
  rw [Nat.blt_eq]; unfold unkN; omega
theorem kn_wlk : ∀ {o : List (Nat × Int)} {i : Nat} {x : Int}, (o.all fun x => kn x.2) = true → wlk o i = some x → kn x = true
  | (j, y) :: o, i, x, h, e => by
    simp only [List.all_cons, Bool.and_eq_true] at h
    simp only [wlk] at e
    split at e
    · cases e; exact h.1
    · exact kn_wlk h.2 e
theorem kn_wg {t : Wt} {i : Nat} (h : t.kns = true) : kn (wg t i) = true := by
  obtain ⟨m, o⟩ := t
  simp only [wg]
  split
  · rename_i x hx; exact kn_wlk h hx
  · exact kn_word (wrd_lt m i)
theorem wrm_kns : ∀ {o : List (Nat × Int)} {i : Nat}, (o.all fun x => kn x.2) = true → ((wrm o i).all fun x => kn x.2) = true
  | [], _, _ => rfl
  | (j, y) :: o, i, h => by
    simp only [List.all_cons, Bool.and_eq_true] at h
    simp only [wrm]
    split
    · exact wrm_kns h.2
    · simp only [List.all_cons, Bool.and_eq_true]; exact ⟨h.1, wrm_kns h.2⟩
theorem kns_wst {t : Wt} {i : Nat} {x : Int} (h : t.kns = true) (hx : kn x = true) : (wst t i x).kns = true := by
  obtain ⟨m, o⟩ := t
  have h : (o.all fun x => kn x.2) = true := h
  have hc : ∀ m y, kn y = true → (Wt.mk m (wins o i y)).kns = true := fun m y hy => wins_kns h hy
  cases x with
  | negSucc n => exact hc _ _ hx
  | ofNat n =>
    simp only [wst]
    split
    · exact wrm_kns h
    · exact hc _ _ hx
theorem wst_deep {n : Nat} {t : Wt} {i : Nat} {x : Int} (_ : t.deep n) : (wst t i x).deep n := trivial
def wmk (_ : Int) (_ : Nat) : Wt := .mk 0 []
theorem wmk_deep (x : Int) (n : Nat) : (wmk x n).deep n := trivial
theorem kns_wmk {x : Int} (_ : kn x = true) (n : Nat) : (wmk x n).kns = true := rfl
theorem wg_wmk (n i : Nat) : wg (wmk 0 n) i = 0 := by
  show Int.ofNat (wrd 0 i) = 0
  have : wrd 0 i = 0 := by show (0 >>> (64 * i)) % _ = 0; simp
  rw [this]; rfl
inductive B where
  | dd
  | ro (cs : List S)
  | c (cs : List S)
  | gr (cs : List S) (m es : Nat)
  | w (k : IntKind) (m D : Nat) (d : Wt)
  | mp (es : List (V × V × Nat)) (ck : Nat)
  | ml (es : List (V × V))
  | it (m : Option Pth) (since : Nat) (seen : List Nat) (last : Nat)
  | lp (t : T) (ps : List Pth) (asg body : DJ) (st : Nat) (pend : Option (Option Nat))
  | dq
  | cu (s : S)
  | rb (n : Nat)
inductive DF where
  | mk (r : Pth)
  | fn (f : Pth) (args : List V)
structure Hp where
  b : Tr B
  n : Pth
  er : Nat
  eq : Nat
  fz : Nat
  df : List DF
  ch : Bool
noncomputable def Hp.at (h : Hp) (r : Pth) : B := gt .dd r h.b
def B.rw : B → Bool
  | .dd => false
  | .ro _ => false
  | .ml _ => false
  | .rb _ => false
  | _ => true
noncomputable def B.rf (f : Pth → Bool) : B → Bool
  | .dd => true
  | .ro cs => cs.all (S.rf f)
  | .c cs => cs.all (S.rf f)
  | .gr cs _ _ => cs.all (S.rf f)
  | .w _ _ _ d => d.kns
  | .mp es _ => es.all fun x => x.1.rk f && x.2.1.rk f
  | .it m _ _ _ => match m with
    | some r => f r
    | none => true
  | .ml es => es.all fun x => x.1.rk f && x.2.rk f
  | .lp t _ _ _ _ _ => t.rf f
  | .dq => true
  | .cu s => s.rf f
  | .rb _ => true
noncomputable abbrev B.ok (n : Nat) (b : B) : Bool := b.rf (Pth.ok n)
noncomputable def esc (r er eq : Nat) (q : Pth) : Bool := Nat.ble q.n r || (Nat.ble er r && Nat.ble q.n eq)
theorem B.rf_mono {f g : Pth → Bool} (hfg : ∀ p, f p = true → g p = true) {b : B} (h : b.rf f = true) : b.rf g = true := by
  cases b with
  | ro cs => exact ss_mono hfg h
  | c cs => exact ss_mono hfg h
  | gr cs m es => exact ss_mono hfg h
  | mp es ck =>
    simp only [B.rf, List.all_eq_true, Bool.and_eq_true] at *
    exact fun x hx => ⟨V.rk_mono hfg (h x hx).1, V.rk_mono hfg (h x hx).2⟩
  | it m a b c =>
    cases m with
    | none => rfl
    | some r => exact hfg r h
  | ml es =>
    simp only [B.rf, List.all_eq_true, Bool.and_eq_true] at *
    exact fun x hx => ⟨V.rk_mono hfg (h x hx).1, V.rk_mono hfg (h x hx).2⟩
  | lp t ps asg body st pend =>
    exact Tr.rf_mono hfg h
  | cu s => exact S.rf_mono hfg h
  | w k m D d => exact h
  | dd => rfl
  | dq => rfl
  | rb n => rfl
def Holds (e : Env) (w : World) (r : Pth) (cs : List S) : Prop := ∀ i s, cs[i]? = some s → w.cell? (adr e r i) = some (s.tr e)
def Room (e : Env) (w : World) (r : Pth) (n : Nat) : Prop := ∀ i, i < n → (w.cell? (adr e r i)).isSome = true ∧ w.frozen? (adr e r i) = false
noncomputable def entT (e : Env) (x : V × V × Nat) : MapEntry := { key := x.1.tr e, val := x.2.1.tr e, born := x.2.2 }
def Unk (v : V) (x : Value) : Prop := (v = .s (.i .i64 unkN) ∧ ∃ n, x = .int .i64 n) ∨ (v = .s .ub ∧ ∃ q, x = .bool q)
def Is (e : Env) (v : V) (x : Value) : Prop := x = v.tr e ∨ Unk v x
def TR (e : Env) (t : T) (tmps : Array Value) : Prop := ∀ p : Pth, gt vu p t = .u ∨ Is e (gt vu p t) (tmps.getD p.n undef)
def stL : Nat → LoopState
  | 0 => .ready
  | 1 => .busy
  | 2 => .done
  | _ => .exhausted
def Jmp : Option (Option Nat) → Option Code → Prop
  | none, none => True
  | some none, some .ret => True
  | some (some id), some (.exit id') => id = id' ∧ id < 1000000
  | some (some id), some (.goto l) => id = 1000000 + 2 * l
  | _, _ => False
def OkB (e : Env) (w : World) (r : Pth) : B → Prop
  | .dd => True
  | .ro cs => (e.σ r).1 < w.heap.size ∧ Holds e w r cs
  | .c cs => (e.σ r).1 < w.heap.size ∧ Holds e w r cs ∧ Room e w r cs.length
  | .gr cs m es => (e.σ r).1 < w.heap.size ∧ Holds e w r cs ∧ cs.length ≤ m * es ∧ Room e w r ((m + e.δ r) * es)
  | .w k m D d => (e.σ r).1 < w.heap.size ∧ (∀ i, i < m → w.cell? (adr e r i) = some (.int k (vl e (wg d i)))) ∧ Room e w r m ∧ d.deep D ∧ m ≤ 2 ^ D
  | .mp es ck => w.heap[(e.σ r).1]? = some (.map (es.map (entT e)).toArray ck)
  | .it m since seen last => (e.σ r).2 = 0 ∧ w.heap[(e.σ r).1]? = some (.mapIter (m.map fun q => (e.σ q).1) since seen.toArray last)
  | .ml es => ∃ (l : List (V × V × Nat)) (ck : Nat), w.heap[(e.σ r).1]? = some (.map (l.map (entT e)).toArray ck) ∧ (l.map fun x => (x.1, x.2.1)).Perm es
  | .lp t ps asg body st pend => ∃ L : Loop, w.heap[(e.σ r).1]? = some (.loop L) ∧ L.state = stL st ∧ Jmp pend L.pending ∧ TR e t L.tmps ∧ L.params.toList = ps.map Pth.n ∧ e.κ L.tmps.size L.assign asg ∧ e.κ L.tmps.size L.body body ∧ ∀ p ∈ ps, p.n < L.tmps.size
  | .dq => w.heap[(e.σ r).1]? = some (.deferred (some []))
  | .cu s => (e.σ r).1 < w.heap.size ∧ w.cell? (adr e r 0) = some (s.tr e) ∧ (∃ n, w.cell? (adr e r 1) = some (.int .i64 n)) ∧ Room e w r 2
  | .rb n => (e.σ r).1 < w.heap.size ∧ ∀ i, i < n → ∃ q, w.cell? (adr e r i) = some (.bool q)
structure Rel (e : Env) (h : Hp) (w : World) : Prop where
  ok : ∀ r : Pth, r.n < h.n.n → OkB e w r (h.at r)
  sep : ∀ r r' : Pth, r.n < h.n.n → r'.n < h.n.n → r ≠ r' → (h.at r).rw = true → h.at r' ≠ .dd → (e.σ r).1 ≠ (e.σ r').1
  val : ∀ r : Pth, r.n < h.n.n → (h.at r).ok h.n.n = true
  esc : ∀ r : Pth, r.n < h.n.n → (h.at r).rf (esc r.n h.er h.eq) = true
structure Agr (n : Nat) (e e' : Env) : Prop where
  σ : ∀ r : Pth, r.n < n → e'.σ r = e.σ r
  δ : ∀ r : Pth, r.n < n → e'.δ r = e.δ r
  ρ : e'.ρ = e.ρ
  β : e'.β = e.β
  κ : e'.κ = e.κ
theorem Agr.refl (n : Nat) (e : Env) : Agr n e e := ⟨fun _ _ => rfl, fun _ _ => rfl, rfl, rfl, rfl⟩
theorem Agr.trans {n n' : Nat} {e e' e2 : Env} (h : Agr n e e') (h' : Agr n' e' e2) (hn : n ≤ n') : Agr n e e2 :=
  ⟨fun r hr => (h'.σ r (by omega)).trans (h.σ r hr), fun r hr => (h'.δ r (by omega)).trans (h.δ r hr), h'.ρ.trans h.ρ, h'.β.trans h.β, h'.κ.trans h.κ⟩
section
variable {n : Nat} {e e' : Env} (A : Agr n e e')
include A
theorem Agr.adr {r : Pth} (o : Nat) (hr : r.n < n) : E.adr e' r o = E.adr e r o := by simp only [E.adr, A.σ r hr]
theorem Agr.vl (x : Int) : E.vl e' x = E.vl e x := by simp only [E.vl, A.ρ, A.β]
theorem Agr.s {s : S} (h : s.ok n = true) : s.tr e' = s.tr e := by
  cases s with
  | i k x => simp only [S.tr, A.vl]
  | p r o => replace h := Pth.ok_iff.1 h; simp only [S.tr, A.adr o h]
  | sl r o a c => replace h := Pth.ok_iff.1 h; simp only [S.tr, A.adr o h, cpT, A.δ r h]
  | fn f cs =>
    simp only [S.ok, S.rf, List.all_eq_true, Pth.ok_iff] at h
    simp only [S.tr]
    congr 2
    exact List.map_congr_left fun x hx => by rw [A.adr x.2 (h x hx)]
  | fm f q r o => replace h := Pth.ok_iff.1 h; simp only [S.tr, A.adr o h]
  | mp r => replace h := Pth.ok_iff.1 h; simp only [S.tr, A.σ r h]
  | yl r => replace h := Pth.ok_iff.1 h; simp only [S.tr, A.σ r h]
  | sg r n => replace h := Pth.ok_iff.1 h; simp only [S.tr, A.adr 0 h, A.ρ]
  | _ => rfl
theorem Agr.map {xs : List S} (h : oks n xs = true) : xs.map (S.tr e') = xs.map (S.tr e) := by
  simp only [oks, List.all_eq_true] at h
  exact List.map_congr_left fun x hx => A.s (h x hx)
theorem Agr.trs {xs : List S} (h : oks n xs = true) : E.trs e' xs = E.trs e xs := by simp only [E.trs, A.map h]
theorem Agr.c {c : C} (h : c.ok n = true) : c.tr e' = c.tr e := by
  cases c with
  | s x => exact A.s h
  | agg xs => simp only [C.tr, A.trs h]
theorem Agr.v {v : V} (h : v.ok n = true) : v.tr e' = v.tr e := by
  cases v with
  | s x =>
    rcases V.rf_iff.1 h with (⟨k, n, rfl⟩ | rfl) | h
    · simp only [V.tr, S.tr, A.vl]
    · rfl
    · exact A.s h
  | agg xs => simp only [V.tr, A.trs h]
  | tup cs =>
    simp only [V.ok, V.rf, List.all_eq_true] at h
    simp only [V.tr]
    congr 2
    exact List.map_congr_left fun x hx => A.c (h x hx)
  | u => rfl
theorem Agr.is {v : V} {x : Value} (h : v.ok n = true) (H : Is e v x) : Is e' v x := by
  rcases H with k | k
  · exact .inl (by rw [A.v h]; exact k)
  · exact .inr k
theorem Agr.t {t : T} {tm : Array Value} (h : t.rf (Pth.ok n) = true) (H : TR e t tm) : TR e' t tm := fun p => by
  rcases H p with k | k
  · exact .inl k
  · exact .inr (A.is (Tr.rf_gt h) k)
end
theorem Pth.ok_mono {n n' : Nat} (hn : n ≤ n') {r : Pth} (h : r.ok n = true) : r.ok n' = true := Pth.ok_iff.2 (by have := Pth.ok_iff.1 h; omega)
theorem S.ok_mono {n n' : Nat} (hn : n ≤ n') {s : S} (h : s.ok n = true) : s.ok n' = true := S.rf_mono (fun _ => Pth.ok_mono hn) h
theorem oks_mono {n n' : Nat} (hn : n ≤ n') {xs : List S} (h : oks n xs = true) : oks n' xs = true := ss_mono (fun _ => Pth.ok_mono hn) h
theorem V.ok_mono {n n' : Nat} (hn : n ≤ n') {v : V} (h : v.ok n = true) : v.ok n' = true := V.rf_mono (fun _ => Pth.ok_mono hn) h
theorem B.ok_mono {n n' : Nat} (hn : n ≤ n') {b : B} (h : b.ok n = true) : b.ok n' = true := B.rf_mono (fun _ => Pth.ok_mono hn) h
theorem cell?_blk {w w' : World} {a : Addr} (h : w'.heap[a.block]? = w.heap[a.block]?) : w'.cell? a = w.cell? a := by simp [World.cell?, h]
theorem frozen?_blk {w w' : World} {a : Addr} (h : w'.heap[a.block]? = w.heap[a.block]?) : w'.frozen? a = w.frozen? a := by simp [World.frozen?, h]
theorem OkB.lt {e : Env} {w : World} {r : Pth} {b : B} (h : OkB e w r b) (hd : b ≠ .dd) : (e.σ r).1 < w.heap.size := by
  cases b with
  | dd => exact absurd rfl hd
  | ro cs => exact h.1
  | c cs => exact h.1
  | gr cs m es => exact h.1
  | w k m D d => exact h.1
  | mp es ck => exact (Array.getElem?_eq_some_iff.1 h).1
  | it m a b c => exact (Array.getElem?_eq_some_iff.1 h.2).1
  | ml es => obtain ⟨l, ck, h, _⟩ := h; exact (Array.getElem?_eq_some_iff.1 h).1
  | lp t ps asg body st pend => obtain ⟨L, h, _⟩ := h; exact (Array.getElem?_eq_some_iff.1 h).1
  | dq => exact (Array.getElem?_eq_some_iff.1 h).1
  | cu s => exact h.1
  | rb n => exact h.1
theorem OkB.move {e e' : Env} {w w' : World} {r : Pth} {b : B} {n : Nat} (h : OkB e w r b) (A : Agr n e e') (hr : r.n < n) (hv : b.ok n = true)
    (hs : w.heap.size ≤ w'.heap.size) (hb : b ≠ .dd → w'.heap[(e.σ r).1]? = w.heap[(e.σ r).1]?) : OkB e' w' r b := by
  have hc : ∀ i, b ≠ .dd → w'.cell? (E.adr e' r i) = w.cell? (E.adr e r i) := fun i hd => by
    rw [A.adr i hr]; exact cell?_blk (hb hd)
  have hf : ∀ i, b ≠ .dd → w'.frozen? (E.adr e' r i) = w.frozen? (E.adr e r i) := fun i hd => by
    rw [A.adr i hr]; exact frozen?_blk (hb hd)
  have hH : ∀ cs, b ≠ .dd → oks n cs = true → Holds e w r cs → Holds e' w' r cs := fun cs hd ho hH i s hi => by
    rw [hc i hd, A.s (by simp only [oks, List.all_eq_true] at ho; exact ho s (List.mem_of_getElem? hi))]
    exact hH i s hi
  have hR : ∀ k, b ≠ .dd → Room e w r k → Room e' w' r k := fun k hd hR i hi => by rw [hc i hd, hf i hd]; exact hR i hi
  cases b with
  | dd => trivial
  | ro cs => exact ⟨by rw [A.σ r hr]; have := h.1; omega, hH cs (by simp) hv h.2⟩
  | c cs => exact ⟨by rw [A.σ r hr]; have := h.1; omega, hH cs (by simp) hv h.2.1, hR _ (by simp) h.2.2⟩
  | gr cs m es => exact ⟨by rw [A.σ r hr]; have := h.1; omega, hH cs (by simp) hv h.2.1, h.2.2.1, by rw [A.δ r hr]; exact hR _ (by simp) h.2.2.2⟩
  | w k m D d => exact ⟨by rw [A.σ r hr]; have := h.1; omega, fun i hi => by rw [hc i (by simp), A.vl]; exact h.2.1 i hi, hR _ (by simp) h.2.2.1, h.2.2.2⟩
  | mp es ck =>
    unfold OkB at h ⊢
    rw [A.σ r hr, hb (by simp), h]
    simp only [B.ok, B.rf, List.all_eq_true, Bool.and_eq_true] at hv
    congr 3
    exact List.map_congr_left fun x hx => by simp only [entT, A.v (V.rk_rf (hv x hx).1), A.v (V.rk_rf (hv x hx).2)]
  | it m a b c =>
    obtain ⟨h0, h⟩ := h
    refine ⟨by rw [A.σ r hr]; exact h0, ?_⟩
    rw [A.σ r hr, hb (by simp), h]
    cases m with
    | none => rfl
    | some q => have := Pth.ok_iff.1 hv; simp only [Option.map_some, A.σ q this]
  | ml es =>
    obtain ⟨l, ck, h1, h2⟩ := h
    refine ⟨l, ck, ?_, h2⟩
    simp only [B.ok, B.rf, List.all_eq_true, Bool.and_eq_true] at hv
    rw [A.σ r hr, hb (by simp), h1]
    congr 3
    refine List.map_congr_left fun x hx => ?_
    have := hv _ (h2.mem_iff.1 (List.mem_map.2 ⟨x, hx, rfl⟩))
    simp only [entT, A.v (V.rk_rf this.1), A.v (V.rk_rf this.2)]
  | lp t ps asg body st pend =>
    obtain ⟨L, h1, h2, h3, h4, h5, h6, h7, h8⟩ := h
    exact ⟨L, by rw [A.σ r hr, hb (by simp), h1], h2, h3, A.t hv h4, h5, by rw [A.κ]; exact h6, by rw [A.κ]; exact h7, h8⟩
  | dq => unfold OkB at h ⊢; rw [A.σ r hr, hb (by simp), h]
  | cu s => exact ⟨by rw [A.σ r hr]; have := h.1; omega, by rw [hc 0 (by simp), A.s hv]; exact h.2.1, by rw [hc 1 (by simp)]; exact h.2.2.1, hR _ (by simp) h.2.2.2⟩
  | rb k => exact ⟨by rw [A.σ r hr]; have := h.1; omega, fun i hi => by rw [hc i (by simp)]; exact h.2 i hi⟩
structure Step (e : Env) (h : Hp) (w : World) (e' : Env) (h' : Hp) (w' : World) : Prop where
  rel : Rel e' h' w'
  fz : h'.fz = h.fz
  ch : h'.ch = h.ch
  agr : Agr h.n.n e e'
  le : h.n.n ≤ h'.n.n
  os : w'.os = w.os
  tape : w'.tape = w.tape
  output : w'.output = w.output
  size : w.heap.size ≤ w'.heap.size
  keep : ∀ b, b < w.heap.size → (∀ r : Pth, r.n < h.n.n → (h.at r).rw = true → (e.σ r).1 ≠ b) → w'.heap[b]? = w.heap[b]?
  mine : ∀ r : Pth, r.n < h'.n.n → (h'.at r).rw = true → (∃ q : Pth, q.n < h.n.n ∧ (h.at q).rw = true ∧ (e.σ q).1 = (e'.σ r).1) ∨ w.heap.size ≤ (e'.σ r).1
  nd : ∀ r : Pth, r.n < h'.n.n → h'.at r ≠ .dd → (∃ q : Pth, q.n < h.n.n ∧ h.at q ≠ .dd ∧ (e.σ q).1 = (e'.σ r).1) ∨ w.heap.size ≤ (e'.σ r).1
theorem Step.refl {e : Env} {h : Hp} {w : World} (H : Rel e h w) : Step e h w e h w :=
  ⟨H, rfl, rfl, Agr.refl _ _, Nat.le_refl _, rfl, rfl, rfl, Nat.le_refl _, fun _ _ _ => rfl, fun r hr hw => .inl ⟨r, hr, hw, rfl⟩, fun r hr hw => .inl ⟨r, hr, hw, rfl⟩⟩
theorem Step.trans {e e1 e2 : Env} {h h1 h2 : Hp} {w w1 w2 : World} (a : Step e h w e1 h1 w1) (b : Step e1 h1 w1 e2 h2 w2) : Step e h w e2 h2 w2 := by
  refine ⟨b.rel, b.fz.trans a.fz, b.ch.trans a.ch, a.agr.trans b.agr a.le, Nat.le_trans a.le b.le, b.os.trans a.os, b.tape.trans a.tape, b.output.trans a.output, Nat.le_trans a.size b.size, fun x hx hn => ?_, fun r hr hw => ?_, fun r hr hw => ?_⟩
  · rw [b.keep x (by have := a.size; omega) fun r hr hw => ?_, a.keep x hx hn]
    rcases a.mine r hr hw with ⟨q, q1, q2, q3⟩ | h3
    · rw [← q3]; exact hn q q1 q2
    · omega
  · rcases b.mine r hr hw with ⟨q, q1, q2, q3⟩ | h3
    · rcases a.mine q q1 q2 with ⟨q', k1, k2, k3⟩ | h4
      · exact .inl ⟨q', k1, k2, k3.trans q3⟩
      · exact .inr (by omega)
    · exact .inr (by have := a.size; omega)
  · rcases b.nd r hr hw with ⟨q, q1, q2, q3⟩ | h3
    · rcases a.nd q q1 q2 with ⟨q', k1, k2, k3⟩ | h4
      · exact .inl ⟨q', k1, k2, k3.trans q3⟩
      · exact .inr (by omega)
    · exact .inr (by have := a.size; omega)
def Hp.set (h : Hp) (r : Pth) (x : B) : Hp := { h with b := st .dd r x h.b }
def Hp.push (h : Hp) (x : B) : Hp := { h with b := st .dd h.n x h.b, n := h.n.succ }
noncomputable def Hp.wide (h : Hp) (r : Pth) : Hp := { h with er := Nat.min h.er r.n, eq := h.n.n }
theorem Hp.at_set (h : Hp) (r q : Pth) (x : B) : (h.set r x).at q = if q = r then x else h.at q := gt_st B.dd r q x h.b
theorem Hp.at_push (h : Hp) (q : Pth) (x : B) : (h.push x).at q = if q = h.n then x else h.at q := gt_st B.dd h.n q x h.b
theorem Hp.at_wide (h : Hp) (r q : Pth) : (h.wide r).at q = h.at q := rfl
theorem Hp.n_push (h : Hp) (x : B) : (h.push x).n.n = h.n.n + 1 := Pth.succ_n _
theorem esc_wide {h : Hp} {r x : Nat} {q : Pth} (hq : q.n < h.n.n) (e : esc r h.er h.eq q = true) : esc r (Nat.min h.er x) h.n.n q = true := by
  simp only [esc, Bool.or_eq_true, Bool.and_eq_true, Nat.ble_eq] at *
  rcases e with e | ⟨e1, e2⟩
  · exact .inl e
  · exact .inr ⟨Nat.le_trans (Nat.min_le_left _ _) e1, by omega⟩
theorem B.rf_and {f g k : Pth → Bool} (hk : ∀ p, f p = true → g p = true → k p = true) {b : B} (h1 : b.rf f = true) (h2 : b.rf g = true) : b.rf k = true := by
  have hs : ∀ {s : S}, s.rf f = true → s.rf g = true → s.rf k = true := fun {s} h1 h2 => by
    cases s with
    | i j n => exact h1
    | p r o => exact hk r h1 h2
    | sl r o a c => exact hk r h1 h2
    | fn j cs => simp only [S.rf, List.all_eq_true] at *; exact fun x hx => hk _ (h1 x hx) (h2 x hx)
    | fm j q r o => exact hk r h1 h2
    | mp r => exact hk r h1 h2
    | yl r => exact hk r h1 h2
    | ub => cases h1
    | sg r n => exact hk r h1 h2
    | _ => rfl
  have hss : ∀ {xs : List S}, xs.all (S.rf f) = true → xs.all (S.rf g) = true → xs.all (S.rf k) = true := fun {xs} h1 h2 => by
    simp only [List.all_eq_true] at *; exact fun x hx => hs (h1 x hx) (h2 x hx)
  have hv : ∀ {v : V}, v.rf f = true → v.rf g = true → v.rf k = true := fun {v} h1 h2 => by
    cases v with
    | s x =>
      rcases V.rf_iff.1 h1 with (⟨k, n, rfl⟩ | rfl) | h1
      · rfl
      · rfl
      · rcases V.rf_iff.1 h2 with (⟨k, n, rfl⟩ | rfl) | h2
        · rfl
        · rfl
        · exact V.rf_iff.2 (.inr (hs h1 h2))
    | agg xs => exact hss h1 h2
    | tup cs =>
      simp only [V.rf, List.all_eq_true] at h1 h2 ⊢
      intro x hx
      have a := h1 x hx
      have b := h2 x hx
      cases x with
      | s x => exact hs a b
      | agg xs => exact hss a b
    | u => rfl
  cases b with
  | ro cs => exact hss h1 h2
  | c cs => exact hss h1 h2
  | gr cs m es => exact hss h1 h2
  | mp es ck =>
    simp only [B.rf, List.all_eq_true, Bool.and_eq_true] at h1 h2 ⊢
    have hk2 : ∀ {v : V}, v.rk f = true → v.rk g = true → v.rk k = true := fun {v} h1 h2 => by
      cases v with
      | s x => exact hs h1 h2
      | agg xs => exact hv (v := .agg xs) h1 h2
      | tup xs => exact hv (v := .tup xs) h1 h2
      | u => rfl
    exact fun x hx => ⟨hk2 (h1 x hx).1 (h2 x hx).1, hk2 (h1 x hx).2 (h2 x hx).2⟩
  | it m a b c =>
    cases m with
    | none => rfl
    | some r => exact hk r h1 h2
  | ml es =>
    simp only [B.rf, List.all_eq_true, Bool.and_eq_true] at h1 h2 ⊢
    have hk2 : ∀ {v : V}, v.rk f = true → v.rk g = true → v.rk k = true := fun {v} h1 h2 => by
      cases v with
      | s x => exact hs h1 h2
      | agg xs => exact hv (v := .agg xs) h1 h2
      | tup xs => exact hv (v := .tup xs) h1 h2
      | u => rfl
    exact fun x hx => ⟨hk2 (h1 x hx).1 (h2 x hx).1, hk2 (h1 x hx).2 (h2 x hx).2⟩
  | lp t ps asg body st pend =>
    exact Tr.rf_iff.2 fun p => hv (Tr.rf_iff.1 h1 p) (Tr.rf_iff.1 h2 p)
  | cu s => exact hs h1 h2
  | w k m D d => exact h1
  | dd => rfl
  | dq => rfl
  | rb n => rfl
theorem Rel.wide {e : Env} {h : Hp} {w : World} (H : Rel e h w) (r : Pth) : Rel e (h.wide r) w :=
  ⟨H.ok, H.sep, H.val, fun q hq => B.rf_and (fun p h1 h2 => esc_wide (Pth.ok_iff.1 h1) h2) (H.val q hq) (H.esc q hq)⟩
theorem Step.wide {e : Env} {h : Hp} {w : World} (H : Rel e h w) (r : Pth) : Step e h w e (h.wide r) w :=
  ⟨H.wide r, rfl, rfl, Agr.refl _ _, Nat.le_refl _, rfl, rfl, rfl, Nat.le_refl _, fun _ _ _ => rfl, fun q hq hw => .inl ⟨q, hq, hw, rfl⟩, fun q hq hw => .inl ⟨q, hq, hw, rfl⟩⟩
theorem Step.upd {e : Env} {h : Hp} {w w' : World} (H : Rel e h w) {r : Pth} (hr : r.n < h.n.n) (hw : (h.at r).rw = true) {x : B} (hx : OkB e w' r x) (hv : x.ok h.n.n = true) (he : x.rf (esc r.n h.er h.eq) = true)
    (ho : ∀ b, b ≠ (e.σ r).1 → w'.heap[b]? = w.heap[b]?) (hs : w.heap.size ≤ w'.heap.size) (h1 : w'.os = w.os) (h2 : w'.tape = w.tape) (h3 : w'.output = w.output) : Step e h w e (h.set r x) w' := by
  have hd : h.at r ≠ .dd := by intro h; rw [h] at hw; cases hw
  refine ⟨⟨fun q hq => ?_, fun q q' hq hq' hne hqw hqd => ?_, fun q hq => ?_, fun q hq => ?_⟩, rfl, rfl, Agr.refl _ _, Nat.le_refl _, h1, h2, h3, hs, fun b hb hn => ho b fun hh => hn r hr hw hh.symm, fun q hq hqw => ?_, fun q hq hqw => ?_⟩
  · rw [Hp.at_set]
    by_cases c : q = r
    · rw [if_pos c, c]; exact hx
    · rw [if_neg c]
      refine (H.ok q hq).move (Agr.refl h.n.n e) hq (H.val q hq) hs fun hqd => ho _ fun hh => ?_
      exact H.sep r q hr hq (Ne.symm c) hw hqd hh.symm
  · rw [Hp.at_set] at hqw hqd
    by_cases c : q = r
    · rw [c]
      by_cases c' : q' = r
      · exact absurd (c.trans c'.symm) hne
      · rw [if_neg c'] at hqd
        exact H.sep r q' hr hq' (Ne.symm c') hw hqd
    · rw [if_neg c] at hqw
      by_cases c' : q' = r
      · rw [c']; exact H.sep q r hq hr c hqw hd
      · rw [if_neg c'] at hqd
        exact H.sep q q' hq hq' hne hqw hqd
  · rw [Hp.at_set]
    split
    · exact hv
    · exact H.val q hq
  · rw [Hp.at_set]
    split
    · rename_i c; rw [c]; exact he
    · exact H.esc q hq
  · rw [Hp.at_set] at hqw
    by_cases c : q = r
    · exact .inl ⟨r, hr, hw, by rw [c]⟩
    · rw [if_neg c] at hqw
      exact .inl ⟨q, hq, hqw, rfl⟩
  · rw [Hp.at_set] at hqw
    by_cases c : q = r
    · exact .inl ⟨r, hr, hd, by rw [c]⟩
    · rw [if_neg c] at hqw
      exact .inl ⟨q, hq, hqw, rfl⟩
theorem Step.kill {e : Env} {h : Hp} {w : World} (H : Rel e h w) {r : Pth} (hr : r.n < h.n.n) (hw : (h.at r).rw = true) : Step e h w e (h.set r .dd) w :=
  Step.upd H hr hw trivial rfl rfl (fun _ _ => rfl) (Nat.le_refl _) rfl rfl rfl
def Env.lay (e : Env) (r : Pth) (x : Nat × Nat) (d : Nat) : Env := { e with σ := fun q => if q = r then x else e.σ q, δ := fun q => if q = r then d else e.δ q }
theorem lay_agr (e : Env) (r : Pth) (x : Nat × Nat) (d : Nat) : Agr r.n e (e.lay r x d) :=
  ⟨fun q hq => if_neg fun h => by rw [h] at hq; omega, fun q hq => if_neg fun h => by rw [h] at hq; omega, rfl, rfl, rfl⟩
theorem lay_σ (e : Env) (r : Pth) (x : Nat × Nat) (d : Nat) : (e.lay r x d).σ r = x := if_pos rfl
theorem lay_δ (e : Env) (r : Pth) (x : Nat × Nat) (d : Nat) : (e.lay r x d).δ r = d := if_pos rfl
theorem esc_new {n er eq : Nat} {q : Pth} (h : q.n < n) : esc n er eq q = true := by
  simp only [esc, Bool.or_eq_true, Nat.ble_eq]; left; omega
theorem Rel.new {e : Env} {h : Hp} {w w' : World} (H : Rel e h w) {x : B} (p : Nat × Nat) (d : Nat) (hx : OkB (e.lay h.n p d) w' h.n x) (hv : x.ok h.n.n = true)
    (ho : ∀ b, b < w.heap.size → b ≠ p.1 → w'.heap[b]? = w.heap[b]?) (hp : ∀ q : Pth, q.n < h.n.n → h.at q ≠ .dd → (e.σ q).1 ≠ p.1) (hs : w.heap.size ≤ w'.heap.size) :
    Rel (e.lay h.n p d) (h.push x) w' := by
  have A := lay_agr e h.n p d
  have hne : ∀ q : Pth, q.n < h.n.n → q ≠ h.n := fun q hq c => by rw [c] at hq; omega
  have hcs : ∀ q : Pth, q.n < (h.push x).n.n → q = h.n ∨ q.n < h.n.n := fun q hq => by
    rw [Hp.n_push] at hq
    by_cases c : q.n = h.n.n
    · exact .inl (Pth.inj c)
    · exact .inr (by omega)
  refine ⟨fun q hq => ?_, fun q q' hq hq' hne' hqw hqd => ?_, fun q hq => ?_, fun q hq => ?_⟩
  · rw [Hp.at_push]
    rcases hcs q hq with c | c
    · rw [if_pos c, c]; exact hx
    · rw [if_neg (hne q c)]
      exact (H.ok q c).move A c (H.val q c) hs fun hqd => ho _ ((H.ok q c).lt hqd) (hp q c hqd)
  · rw [Hp.at_push] at hqw hqd
    rcases hcs q hq with c | c
    · rcases hcs q' hq' with c' | c'
      · exact absurd (c.trans c'.symm) hne'
      · rw [if_neg (hne q' c')] at hqd
        rw [c, lay_σ, A.σ q' c']
        exact fun e => hp q' c' hqd e.symm
    · rw [if_neg (hne q c)] at hqw
      rcases hcs q' hq' with c' | c'
      · rw [c', lay_σ, A.σ q c]
        exact hp q c (by intro h; rw [h] at hqw; cases hqw)
      · rw [if_neg (hne q' c')] at hqd
        rw [A.σ q c, A.σ q' c']
        exact H.sep q q' c c' hne' hqw hqd
  · rw [Hp.at_push, Hp.n_push]
    split
    · exact B.ok_mono (by omega) hv
    · rcases hcs q hq with c | c
      · rename_i k; exact absurd c k
      · exact B.ok_mono (by omega) (H.val q c)
  · rw [Hp.at_push]
    split
    · rename_i c; rw [c]; exact B.rf_mono (fun p hp => esc_new (Pth.ok_iff.1 hp)) hv
    · rcases hcs q hq with c | c
      · rename_i k; exact absurd c k
      · exact H.esc q c
theorem push_cs {h : Hp} {x : B} {q : Pth} (hq : q.n < (h.push x).n.n) : q = h.n ∨ (q.n < h.n.n ∧ q ≠ h.n) := by
  rw [Hp.n_push] at hq
  by_cases c : q.n = h.n.n
  · exact .inl (Pth.inj c)
  · exact .inr ⟨by omega, fun k => c (by rw [k])⟩
theorem Step.new {e : Env} {h : Hp} {w w' : World} (H : Rel e h w) {x : B} (p : Nat × Nat) (d : Nat) (hx : OkB (e.lay h.n p d) w' h.n x) (hv : x.ok h.n.n = true)
    (ho : ∀ b, b < w.heap.size → w'.heap[b]? = w.heap[b]?) (hp : w.heap.size ≤ p.1) (hs : w.heap.size ≤ w'.heap.size) (h1 : w'.os = w.os) (h2 : w'.tape = w.tape) (h3 : w'.output = w.output) :
    Step e h w (e.lay h.n p d) (h.push x) w' := by
  have A := lay_agr e h.n p d
  refine ⟨H.new p d hx hv (fun b hb _ => ho b hb) (fun q hq hd => by have := (H.ok q hq).lt hd; omega) hs, rfl, rfl, A, by rw [Hp.n_push]; omega, h1, h2, h3, hs, fun b hb _ => ho b hb, fun q hq hqw => ?_, fun q hq hqw => ?_⟩
  · rw [Hp.at_push] at hqw
    rcases push_cs hq with c | ⟨c, c2⟩
    · rw [c, lay_σ]; exact .inr hp
    · rw [if_neg c2] at hqw
      exact .inl ⟨q, c, hqw, by rw [A.σ q c]⟩
  · rw [Hp.at_push] at hqw
    rcases push_cs hq with c | ⟨c, c2⟩
    · rw [c, lay_σ]; exact .inr hp
    · rw [if_neg c2] at hqw
      exact .inl ⟨q, c, hqw, by rw [A.σ q c]⟩
theorem Step.mv {e : Env} {h : Hp} {w w' : World} (H : Rel e h w) {r : Pth} (hr : r.n < h.n.n) (hw : (h.at r).rw = true) {x : B} (d : Nat) (hx : OkB (e.lay h.n (e.σ r) d) w' h.n x) (hv : x.ok h.n.n = true)
    (ho : ∀ b, b ≠ (e.σ r).1 → w'.heap[b]? = w.heap[b]?) (hs : w.heap.size ≤ w'.heap.size) (h1 : w'.os = w.os) (h2 : w'.tape = w.tape) (h3 : w'.output = w.output) :
    Step e h w (e.lay h.n (e.σ r) d) ((h.set r .dd).push x) w' := by
  have A := lay_agr e h.n (e.σ r) d
  have K := (Step.kill H hr hw).rel
  refine ⟨K.new (e.σ r) d hx hv (fun b _ hb => ho b hb) (fun q hq hd => ?_) hs, rfl, rfl, A, ?_, h1, h2, h3, hs, fun b hb hn => ho b fun hh => hn r hr hw hh.symm, fun q hq hqw => ?_, fun q hq hqw => ?_⟩
  · rw [Hp.at_set] at hd
    by_cases c : q = r
    · rw [if_pos c] at hd; exact absurd rfl hd
    · rw [if_neg c] at hd
      exact fun hh => H.sep r q hr hq (Ne.symm c) hw hd hh.symm
  · have := Hp.n_push (h.set r .dd) x
    have e2 : (h.set r .dd).n.n = h.n.n := rfl
    omega
  · rw [Hp.at_push] at hqw
    rcases push_cs hq with c | ⟨c, c2⟩
    · have c : q = h.n := c
      rw [c, lay_σ]; exact .inl ⟨r, hr, hw, rfl⟩
    · have c : q.n < h.n.n := c
      rw [if_neg c2, Hp.at_set] at hqw
      split at hqw
      · cases hqw
      · exact .inl ⟨q, c, hqw, by rw [A.σ q c]⟩
  · rw [Hp.at_push] at hqw
    rcases push_cs hq with c | ⟨c, c2⟩
    · have c : q = h.n := c
      rw [c, lay_σ]; exact .inl ⟨r, hr, (by intro h; rw [h] at hw; cases hw), rfl⟩
    · have c : q.n < h.n.n := c
      rw [if_neg c2, Hp.at_set] at hqw
      split at hqw
      · exact absurd rfl hqw
      · exact .inl ⟨q, c, hqw, by rw [A.σ q c]⟩
noncomputable def Hp.safe (h : Hp) (n : Pth) : Bool := Nat.ble n.n h.er || Nat.blt h.eq n.n
def Hp.cut (h : Hp) (n : Pth) : Hp := { h with n := n }
theorem Step.cut {e e' : Env} {h h' : Hp} {w w' : World} (T : Step e h w e' h' w') (hs : h'.safe h.n = true) : Step e h w e' (h'.cut h.n) w' := by
  have hlt : ∀ r : Pth, r.n < h.n.n → r.n < h'.n.n := fun r hr => by have := T.le; omega
  refine ⟨⟨fun r hr => T.rel.ok r (hlt r hr), fun r r' hr hr' => T.rel.sep r r' (hlt r hr) (hlt r' hr'), fun r hr => ?_, fun r hr => T.rel.esc r (hlt r hr)⟩, T.fz, T.ch, T.agr, Nat.le_refl _, T.os, T.tape, T.output, T.size, T.keep, fun r hr => T.mine r (hlt r hr), fun r hr => T.nd r (hlt r hr)⟩
  refine B.rf_mono (fun p hp => ?_) (T.rel.esc r (hlt r hr))
  simp only [Hp.safe, esc, Bool.or_eq_true, Bool.and_eq_true, Nat.ble_eq, Nat.blt_eq] at hs hp
  refine Pth.ok_iff.2 ?_
  have hr : r.n < h.n.n := hr
  show p.n < h.n.n
  rcases hp with hp | ⟨h1, h2⟩
  · omega
  · omega
noncomputable def gtV (p : Pth) : T → V := Pth.rec (motive := fun _ => T → V) (fun i j t => N8.g j (N8.g i t.s)) (fun i j k t => N8.g k (N8.g j (N8.g i t.t))) (fun n t => lkF vu n t.o) p
theorem gtV_eq (p : Pth) (t : T) : gtV p t = gt vu p t := rfl
section
variable {α β : Type}
noncomputable def N8.uK (i : D8) : N8 α → (α → (α → β) → β) → (N8 α → β) → β := D8.rec (motive := fun _ => N8 α → (α → (α → β) → β) → (N8 α → β) → β)
  (fun x f k => N8.rec (fun a b c d e p g h => f a fun a => k ⟨a, b, c, d, e, p, g, h⟩) x) (fun x f k => N8.rec (fun a b c d e p g h => f b fun b => k ⟨a, b, c, d, e, p, g, h⟩) x)
  (fun x f k => N8.rec (fun a b c d e p g h => f c fun c => k ⟨a, b, c, d, e, p, g, h⟩) x) (fun x f k => N8.rec (fun a b c d e p g h => f d fun d => k ⟨a, b, c, d, e, p, g, h⟩) x)
  (fun x f k => N8.rec (fun a b c d e p g h => f e fun e => k ⟨a, b, c, d, e, p, g, h⟩) x) (fun x f k => N8.rec (fun a b c d e p g h => f p fun p => k ⟨a, b, c, d, e, p, g, h⟩) x)
  (fun x f k => N8.rec (fun a b c d e p g h => f g fun g => k ⟨a, b, c, d, e, p, g, h⟩) x) (fun x f k => N8.rec (fun a b c d e p g h => f h fun h => k ⟨a, b, c, d, e, p, g, h⟩) x) i
noncomputable def N8.sK (i : D8) : N8 α → α → (N8 α → β) → β := D8.rec (motive := fun _ => N8 α → α → (N8 α → β) → β)
  (fun x v k => N8.rec (fun a b c d e p g h => k ⟨v, b, c, d, e, p, g, h⟩) x) (fun x v k => N8.rec (fun a b c d e p g h => k ⟨a, v, c, d, e, p, g, h⟩) x)
  (fun x v k => N8.rec (fun a b c d e p g h => k ⟨a, b, v, d, e, p, g, h⟩) x) (fun x v k => N8.rec (fun a b c d e p g h => k ⟨a, b, c, v, e, p, g, h⟩) x)
  (fun x v k => N8.rec (fun a b c d e p g h => k ⟨a, b, c, d, v, p, g, h⟩) x) (fun x v k => N8.rec (fun a b c d e p g h => k ⟨a, b, c, d, e, v, g, h⟩) x)
  (fun x v k => N8.rec (fun a b c d e p g h => k ⟨a, b, c, d, e, p, v, h⟩) x) (fun x v k => N8.rec (fun a b c d e p g h => k ⟨a, b, c, d, e, p, g, v⟩) x) i
theorem N8.sK_eq (i : D8) (x : N8 α) (v : α) (k : N8 α → β) : N8.sK i x v k = k (x.u i fun _ => v) := by cases i <;> rfl
theorem N8.uK_eq (i : D8) (x : N8 α) (f : α → (α → β) → β) (f0 : α → α) (hf : ∀ y k, f y k = k (f0 y)) (k : N8 α → β) : N8.uK i x f k = k (x.u i f0) := by
  cases i <;> exact hf _ _
variable (d : α)
noncomputable def stK (_d : α) (p : Pth) : Tr α → α → (Tr α → β) → β :=
  Pth.rec (motive := fun _ => Tr α → α → (Tr α → β) → β)
    (fun i j t v k => Tr.rec (fun s u o => N8.uK i s (fun y k => N8.sK j y v k) fun s => k ⟨s, u, o⟩) t)
    (fun i j l t v k => Tr.rec (fun s u o => N8.uK i u (fun y k => N8.uK j y (fun y k => N8.sK l y v k) k) fun u => k ⟨s, u, o⟩) t)
    (fun n t v k => Tr.rec (fun s u o => k ⟨s, u, (n, v) :: o⟩) t) p
theorem stK_eq (p : Pth) (t : Tr α) (v : α) (k : Tr α → β) : stK d p t v k = k (st d p v t) := by
  obtain ⟨s, u, o⟩ := t
  cases p with
  | s i j => exact N8.uK_eq i s _ (N8.u j fun _ => v) (fun y k => N8.sK_eq j y v k) _
  | t i j l => exact N8.uK_eq i u _ (N8.u j (N8.u l fun _ => v)) (fun y k => N8.uK_eq j y _ (N8.u l fun _ => v) (fun y k => N8.sK_eq l y v k) k) _
  | o n => rfl
end
noncomputable def fN {β : Type} (n : Nat) (k : Nat → β) : β := Nat.rec (k 0) (fun m _ => k (Nat.succ m)) n
theorem fN_eq {β : Type} (n : Nat) (k : Nat → β) : fN n k = k n := by cases n <;> rfl
noncomputable def fI {β : Type} (n : Int) (k : Int → β) : β := Int.rec (fun m => fN m fun m => k (.ofNat m)) (fun m => fN m fun m => k (.negSucc m)) n
theorem fI_eq {β : Type} (n : Int) (k : Int → β) : fI n k = k n := by cases n <;> simp only [fI, fN_eq]
noncomputable def ev (t : T) (x : O) : V := O.rec (fun p => gtV p t) (fun v => v) x
noncomputable def evs (t : T) (l : List O) : List V := List.rec (motive := fun _ => List V) [] (fun x _ ih => ev t x :: ih) l
theorem evs_eq (t : T) : ∀ l : List O, evs t l = l.map (ev t)
  | [] => rfl
  | x :: l => by show ev t x :: evs t l = _; rw [evs_eq t l]; rfl
noncomputable def nU (s : S) : Bool := S.rec (fun _ => true) (fun _ n => kn n) (fun _ _ => true) true (fun _ _ _ _ => true) true (fun _ _ => true) (fun _ _ => true) (fun _ _ _ _ => true) true (fun _ => true) (fun _ => true) true (fun _ => true) false (fun _ _ => true) s
section
variable {β : Type}
noncomputable def asI (v : V) (k : IntKind → Int → Option β) : Option β :=
  V.rec (fun s => S.rec (fun _ => none) (fun kd n => k kd n) (fun _ _ => none) none (fun _ _ _ _ => none) none (fun _ _ => none) (fun _ _ => none) (fun _ _ _ _ => none) none (fun _ => none) (fun _ => none) none (fun _ => none) none (fun _ _ => none) s) (fun _ => none) (fun _ => none) none v
theorem asI_some {v : V} {k : IntKind → Int → Option β} {r : β} (h : asI v k = some r) : ∃ kd n, v = .s (.i kd n) ∧ k kd n = some r := by
  cases v with
  | s s => cases s <;> first | exact ⟨_, _, rfl, h⟩ | cases h
  | agg _ => cases h
  | tup _ => cases h
  | u => cases h
noncomputable def asB (v : V) (k : Bool → Option β) : Option β :=
  V.rec (fun s => S.rec (fun q => k q) (fun _ _ => none) (fun _ _ => none) none (fun _ _ _ _ => none) none (fun _ _ => none) (fun _ _ => none) (fun _ _ _ _ => none) none (fun _ => none) (fun _ => none) none (fun _ => none) none (fun _ _ => none) s) (fun _ => none) (fun _ => none) none v
theorem asB_some {v : V} {k : Bool → Option β} {r : β} (h : asB v k = some r) : ∃ q, v = .s (.b q) ∧ k q = some r := by
  cases v with
  | s s => cases s <;> first | exact ⟨_, rfl, h⟩ | cases h
  | agg _ => cases h
  | tup _ => cases h
  | u => cases h
noncomputable def asP (v : V) (k : Pth → Nat → Option β) : Option β :=
  V.rec (fun s => S.rec (fun _ => none) (fun _ _ => none) (fun r o => k r o) none (fun _ _ _ _ => none) none (fun _ _ => none) (fun _ _ => none) (fun _ _ _ _ => none) none (fun _ => none) (fun _ => none) none (fun _ => none) none (fun _ _ => none) s) (fun _ => none) (fun _ => none) none v
theorem asP_some {v : V} {k : Pth → Nat → Option β} {r : β} (h : asP v k = some r) : ∃ q o, v = .s (.p q o) ∧ k q o = some r := by
  cases v with
  | s s => cases s <;> first | exact ⟨_, _, rfl, h⟩ | cases h
  | agg _ => cases h
  | tup _ => cases h
  | u => cases h
noncomputable def asS (v : V) (k : S → Option β) : Option β := V.rec k (fun _ => none) (fun _ => none) none v
theorem asS_some {v : V} {k : S → Option β} {r : β} (h : asS v k = some r) : ∃ s, v = .s s ∧ k s = some r := by
  cases v with
  | s s => exact ⟨_, rfl, h⟩
  | agg _ => cases h
  | tup _ => cases h
  | u => cases h
noncomputable def asA (v : V) (k : List S → Option β) : Option β := V.rec (fun _ => none) k (fun _ => none) none v
theorem asA_some {v : V} {k : List S → Option β} {r : β} (h : asA v k = some r) : ∃ s, v = .agg s ∧ k s = some r := by
  cases v with
  | s s => cases h
  | agg _ => exact ⟨_, rfl, h⟩
  | tup _ => cases h
  | u => cases h
noncomputable def onB (q : Bool) (x y : Option β) : Option β := Bool.rec y x q
noncomputable def asC (v : V) (k : List S → Option β) : Option β := V.rec (fun s => onB (nU s) (k [s]) none) k (fun _ => none) none v
theorem onB_eq (q : Bool) (x y : Option β) : onB q x y = if q = true then x else y := by cases q <;> rfl
noncomputable def onO {α : Type} (o : Option α) (k : α → Option β) : Option β := Option.rec none k o
theorem onO_some {α : Type} {o : Option α} {k : α → Option β} {r : β} (h : onO o k = some r) : ∃ a, o = some a ∧ k a = some r := by
  cases o with
  | none => cases h
  | some a => exact ⟨a, rfl, h⟩
end
def V.cs : V → List S
  | .s x => [x]
  | .agg xs => xs
  | _ => []
def V.pl : V → Bool
  | .s _ => true
  | .agg _ => true
  | _ => false
def V.kns : V → Bool
  | .s _ => true
  | .agg _ => true
  | _ => false
theorem asC_some {β : Type} {v : V} {k : List S → Option β} {r : β} (h : asC v k = some r) : v.pl = true ∧ (∀ s, v = .s s → nU s = true) ∧ k v.cs = some r := by
  cases v with
  | s s =>
    have h : onB (nU s) (k [s]) none = some r := h
    rw [onB_eq] at h
    split at h
    · rename_i q
      exact ⟨rfl, fun _ e => by cases e; exact q, h⟩
    · cases h
  | agg _ => exact ⟨rfl, (by rintro _ ⟨⟩), h⟩
  | tup _ => cases h
  | u => cases h
def nthS : List S → Nat → Option S
  | [], _ => none
  | x :: _, 0 => some x
  | _ :: l, n + 1 => nthS l n
theorem nthS_eq : ∀ (l : List S) (n : Nat), nthS l n = l[n]?
  | [], _ => rfl
  | x :: _, 0 => rfl
  | _ :: l, n + 1 => by rw [nthS, nthS_eq l n]; rfl
def tkS : List S → Nat → Option (List S)
  | _, 0 => some []
  | [], _ + 1 => none
  | x :: l, n + 1 => match tkS l n with
    | some r => some (x :: r)
    | none => none
theorem tkS_some : ∀ {l : List S} {n : Nat} {r : List S}, tkS l n = some r → r = l.take n ∧ n ≤ l.length
  | l, 0, r, h => by simp only [tkS, Option.some.injEq] at h; rw [← h]; simp
  | [], n + 1, r, h => by simp [tkS] at h
  | x :: l, n + 1, r, h => by
    simp only [tkS] at h
    split at h
    · rename_i q hq
      obtain ⟨h1, h2⟩ := tkS_some hq
      simp only [Option.some.injEq] at h
      rw [← h, h1]
      simp; omega
    · cases h
def drS : List S → Nat → List S
  | l, 0 => l
  | [], _ + 1 => []
  | _ :: l, n + 1 => drS l n
theorem drS_eq : ∀ (l : List S) (n : Nat), drS l n = l.drop n
  | l, 0 => by cases l <;> rfl
  | [], _ + 1 => rfl
  | _ :: l, n + 1 => by rw [drS, drS_eq l n]; rfl
def ptS : List S → Nat → List S → Option (List S)
  | l, 0, [] => some l
  | _ :: l, 0, v :: vs => match ptS l 0 vs with
    | some r => some (v :: r)
    | none => none
  | x :: l, n + 1, vs => match ptS l n vs with
    | some r => some (x :: r)
    | none => none
  | [], 0, _ :: _ => none
  | [], _ + 1, _ => none
def apS : List S → List S → List S
  | [], l => l
  | x :: a, l => x :: apS a l
theorem apS_eq : ∀ a b : List S, apS a b = a ++ b
  | [], _ => rfl
  | x :: a, b => by rw [apS, apS_eq a b]; rfl
theorem ptS_some : ∀ {l : List S} {n : Nat} {vs r : List S}, ptS l n vs = some r → n + vs.length ≤ l.length ∧ r.length = l.length ∧ ∀ i, r[i]? = if n ≤ i ∧ i < n + vs.length then vs[i - n]? else l[i]?
  | l, 0, [], r, h => by
    simp only [ptS, Option.some.injEq] at h
    subst h
    refine ⟨by simp, rfl, fun i => ?_⟩
    rw [if_neg (by simp)]
  | x :: l, 0, v :: vs, r, h => by
    simp only [ptS] at h
    split at h
    · rename_i q hq
      obtain ⟨h1, h2, h3⟩ := ptS_some hq
      simp only [Option.some.injEq] at h
      subst h
      refine ⟨by simp only [List.length_cons]; omega, by simp [h2], fun i => ?_⟩
      cases i with
      | zero => simp
      | succ i =>
        have := h3 i
        simp only [List.getElem?_cons_succ, List.length_cons] at this ⊢
        rw [this]
        by_cases c : i < vs.length
        · rw [if_pos (by omega), if_pos (by omega)]
          simp
        · rw [if_neg (by omega), if_neg (by omega)]
    · cases h
  | x :: l, n + 1, vs, r, h => by
    simp only [ptS] at h
    split at h
    · rename_i q hq
      obtain ⟨h1, h2, h3⟩ := ptS_some hq
      simp only [Option.some.injEq] at h
      subst h
      refine ⟨by simp only [List.length_cons]; omega, by simp [h2], fun i => ?_⟩
      cases i with
      | zero => simp
      | succ i =>
        have := h3 i
        simp only [List.getElem?_cons_succ] at this ⊢
        rw [this]
        by_cases c : n ≤ i ∧ i < n + vs.length
        · rw [if_pos c, if_pos (by omega)]
          congr 1
          omega
        · rw [if_neg c, if_neg (by omega)]
    · cases h
  | [], 0, _ :: _, r, h => by simp [ptS] at h
  | [], _ + 1, _, r, h => by simp [ptS] at h
end Go.E
