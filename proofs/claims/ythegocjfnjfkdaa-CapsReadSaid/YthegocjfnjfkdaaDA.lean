/- The base of the calculus: abstract values, blocks, and how they stand in a world. -/
import Derived.WalkKit
import Derived.Deep.Quiet
import Derived.StillTail
namespace Go.D
set_option linter.all false

/-- A reference to a block: one of the shared heap, or one of the running function's own. -/
inductive R where
  | g (k : Nat)
  | l (k : Nat)
  deriving DecidableEq

/-- A scalar. 'u': nothing is known. -/
inductive S where
  | u
  | b (x : Bool)
  | i (k : IntKind) (n : Int)
  | p (r : R) (o : Nat)
  | np
  | sl (r : R) (o len cap : Nat)
  | ns
  | fn (f : FuncId) (cs : List (R × Nat))
  | nf

inductive C where
  | s (x : S)
  | agg (xs : List S)

inductive V where
  | s (x : S)
  | agg (xs : List S)
  | tup (xs : List C)

/-- Where the blocks lie: block number and first offset. -/
abbrev Sg := R → Nat × Nat

def adr (σ : Sg) (r : R) (o : Nat) : Addr := ⟨(σ r).1, (σ r).2 + o, none⟩

def S.tr (σ : Sg) : S → Value
  | .u => .tuple #[]
  | .b x => .bool x
  | .i k n => .int k n
  | .p r o => .pointer (some (adr σ r o))
  | .np => .pointer none
  | .sl r o n c => .slice (some (adr σ r o)) n c
  | .ns => .slice none 0 0
  | .fn f cs => .func (.func f) #[] (cs.map fun x => Value.pointer (some (adr σ x.1 x.2))).toArray
  | .nf => .nilFunc

def trs (σ : Sg) (xs : List S) : Array Value := (xs.map (S.tr σ)).toArray

def C.tr (σ : Sg) : C → Value
  | .s x => x.tr σ
  | .agg xs => .agg (trs σ xs)

def V.tr (σ : Sg) : V → Value
  | .s x => x.tr σ
  | .agg xs => .agg (trs σ xs)
  | .tup cs => .tuple (cs.map (C.tr σ)).toArray

/-- Is a reference one of so many shared and so many own blocks? -/
def R.val (n m : Nat) : R → Bool
  | .g k => decide (k < n)
  | .l k => decide (k < m)

def S.val (n m : Nat) : S → Bool
  | .p r _ => r.val n m
  | .sl r _ _ _ => r.val n m
  | .fn _ cs => cs.all fun x => x.1.val n m
  | _ => true

def vals (n m : Nat) (xs : List S) : Bool := xs.all (S.val n m)

def C.val (n m : Nat) : C → Bool
  | .s x => x.val n m
  | .agg xs => vals n m xs

def V.val (n m : Nat) : V → Bool
  | .s x => x.val n m
  | .agg xs => vals n m xs
  | .tup cs => cs.all (C.val n m)

/-- What may be done with a block. -/
inductive BK where
  | rw | ro | dead
  deriving DecidableEq

structure Blk where
  st : BK
  cells : List S
  room : Nat

def blk (h ls : List Blk) : R → Option Blk
  | .g k => h[k]?
  | .l k => ls[k]?

def setH (h : List Blk) (r : R) (B : Blk) : List Blk :=
  match r with
  | .g k => h.set k B
  | .l _ => h
def setL (ls : List Blk) (r : R) (B : Blk) : List Blk :=
  match r with
  | .g _ => ls
  | .l k => ls.set k B

/-- The cells of a block stand in a world. -/
def Holds (σ : Sg) (w : World) (r : R) (cells : List S) : Prop :=
  ∀ i s, cells[i]? = some s → s ≠ .u → w.cell? (adr σ r i) = some (s.tr σ)

def OkBlk (σ : Sg) (w : World) (r : R) (B : Blk) : Prop :=
  match B.st with
  | .dead => True
  | .ro => (σ r).1 < w.heap.size ∧ Holds σ w r B.cells
  | .rw => (σ r).1 < w.heap.size ∧ Holds σ w r B.cells ∧ B.cells.length ≤ B.room ∧
      ∀ i, i < B.room → (w.cell? (adr σ r i)).isSome = true ∧ w.frozen? (adr σ r i) = false

structure Sim (σ : Sg) (h ls : List Blk) (w : World) : Prop where
  ok : ∀ r B, blk h ls r = some B → OkBlk σ w r B
  sep : ∀ r r' B B', blk h ls r = some B → blk h ls r' = some B' → r ≠ r' → B.st = .rw → B'.st ≠ .dead → (σ r).1 ≠ (σ r').1
  gval : ∀ B, B ∈ h → vals h.length 0 B.cells = true
  lval : ∀ B, B ∈ ls → vals h.length ls.length B.cells = true

/-- The streams, the schedule and the clock are as they were. -/
structure Same (w w' : World) : Prop where
  os : w'.os = w.os
  tape : w'.tape = w.tape
  output : w'.output = w.output
  size : w.heap.size ≤ w'.heap.size

theorem Same.refl (w : World) : Same w w := ⟨rfl, rfl, rfl, Nat.le_refl _⟩
theorem Same.trans {a b c : World} (h : Same a b) (k : Same b c) : Same a c :=
  ⟨k.os.trans h.os, k.tape.trans h.tape, k.output.trans h.output, Nat.le_trans h.size k.size⟩

/-- Of what lay in the world, only the blocks of the shared heap that may be written have changed. -/
structure Kept (σ : Sg) (h : List Blk) (w w' : World) : Prop where
  same : Same w w'
  keep : ∀ b, b < w.heap.size → (∀ k B, h[k]? = some B → B.st = .rw → (σ (.g k)).1 ≠ b) → w'.heap[b]? = w.heap[b]?

/-- How the running function stands to the world in which it began: its place is (σ0, h0, w0). -/
structure Inv (σ0 : Sg) (h0 : List Blk) (w0 : World) (σ : Sg) (h ls : List Blk) (w : World) : Prop where
  sim : Sim σ h ls w
  kept : Kept σ0 h0 w0 w
  len : h0.length ≤ h.length
  old : ∀ k, k < h0.length → σ (.g k) = σ0 (.g k)
  mine : ∀ r B, blk h ls r = some B → B.st = .rw → (∃ k B0, r = .g k ∧ h0[k]? = some B0 ∧ B0.st = .rw) ∨ w0.heap.size ≤ (σ r).1
  new : ∀ k, h0.length ≤ k → k < h.length → w0.heap.size ≤ (σ (.g k)).1
  live : ∀ (k : Nat) (B0 B : Blk), h0[k]? = some B0 → h[k]? = some B → B.st ≠ .dead → B0.st ≠ .dead

/-! ### translation hangs on the valid references alone -/

theorem adr_congr {σ σ' : Sg} {r : R} (o : Nat) (h : σ' r = σ r) : adr σ' r o = adr σ r o := by simp [adr, h]

/-- Two placings agree on so many references. -/
def Agree (n m : Nat) (σ σ' : Sg) : Prop := ∀ r, r.val n m = true → σ' r = σ r

theorem S.tr_congr {σ σ' : Sg} {n m : Nat} (hA : Agree n m σ σ') (s : S) (hv : s.val n m = true) : s.tr σ' = s.tr σ := by
  cases s with
  | p r o => simp only [S.val] at hv; simp only [S.tr, adr_congr o (hA r hv)]
  | sl r o a c => simp only [S.val] at hv; simp only [S.tr, adr_congr o (hA r hv)]
  | fn f cs =>
    simp only [S.val, List.all_eq_true] at hv
    simp only [S.tr]
    congr 2
    refine List.map_congr_left fun x hx => ?_
    rw [adr_congr x.2 (hA x.1 (hv x hx))]
  | _ => rfl

theorem trs_congr {σ σ' : Sg} {n m : Nat} (hA : Agree n m σ σ') (xs : List S) (hv : vals n m xs = true) : trs σ' xs = trs σ xs := by
  simp only [vals, List.all_eq_true] at hv
  simp only [trs]
  congr 1
  exact List.map_congr_left fun x hx => S.tr_congr hA x (hv x hx)

theorem C.tr_congr {σ σ' : Sg} {n m : Nat} (hA : Agree n m σ σ') (c : C) (hv : c.val n m = true) : c.tr σ' = c.tr σ := by
  cases c with
  | s x => exact S.tr_congr hA x hv
  | agg xs => simp only [C.tr, trs_congr hA xs hv]

theorem V.tr_congr {σ σ' : Sg} {n m : Nat} (hA : Agree n m σ σ') (v : V) (hv : v.val n m = true) : v.tr σ' = v.tr σ := by
  cases v with
  | s x => exact S.tr_congr hA x hv
  | agg xs => simp only [V.tr, trs_congr hA xs hv]
  | tup cs =>
    simp only [V.val, List.all_eq_true] at hv
    simp only [V.tr]
    congr 2
    exact List.map_congr_left fun x hx => C.tr_congr hA x (hv x hx)

theorem R.val_mono {n m n' m' : Nat} (hn : n ≤ n') (hm : m ≤ m') {r : R} (h : r.val n m = true) : r.val n' m' = true := by
  cases r <;> simp only [R.val, decide_eq_true_eq] at * <;> omega
theorem S.val_mono {n m n' m' : Nat} (hn : n ≤ n') (hm : m ≤ m') {s : S} (h : s.val n m = true) : s.val n' m' = true := by
  cases s with
  | p r o => exact R.val_mono hn hm h
  | sl r o a c => exact R.val_mono hn hm h
  | fn f cs => simp only [S.val, List.all_eq_true] at *; exact fun x hx => R.val_mono hn hm (h x hx)
  | _ => rfl
theorem vals_mono {n m n' m' : Nat} (hn : n ≤ n') (hm : m ≤ m') {xs : List S} (h : vals n m xs = true) : vals n' m' xs = true := by
  simp only [vals, List.all_eq_true] at *; exact fun x hx => S.val_mono hn hm (h x hx)
theorem C.val_mono {n m n' m' : Nat} (hn : n ≤ n') (hm : m ≤ m') {c : C} (h : c.val n m = true) : c.val n' m' = true := by
  cases c with
  | s x => exact S.val_mono hn hm h
  | agg xs => exact vals_mono hn hm h
theorem V.val_mono {n m n' m' : Nat} (hn : n ≤ n') (hm : m ≤ m') {v : V} (h : v.val n m = true) : v.val n' m' = true := by
  cases v with
  | s x => exact S.val_mono hn hm h
  | agg xs => exact vals_mono hn hm h
  | tup cs => simp only [V.val, List.all_eq_true] at *; exact fun x hx => C.val_mono hn hm (h x hx)

/-! ### worlds that agree on a block -/

theorem cell?_block {w w' : World} {a : Addr} (h : w'.heap[a.block]? = w.heap[a.block]?) : w'.cell? a = w.cell? a := by
  simp [World.cell?, h]
theorem frozen?_block {w w' : World} {a : Addr} (h : w'.heap[a.block]? = w.heap[a.block]?) : w'.frozen? a = w.frozen? a := by
  simp [World.frozen?, h]

/-- A block that stands in a world stands in each that has the same there. -/
theorem OkBlk.move {σ σ' : Sg} {w w' : World} {r : R} {B : Blk} {n m : Nat} (h : OkBlk σ w r B) (hr : σ' r = σ r) (hA : Agree n m σ σ')
    (hv : vals n m B.cells = true) (hs : w.heap.size ≤ w'.heap.size) (hb : B.st ≠ .dead → w'.heap[(σ r).1]? = w.heap[(σ r).1]?) : OkBlk σ' w' r B := by
  unfold OkBlk at *
  have hH : B.st ≠ .dead → Holds σ w r B.cells → Holds σ' w' r B.cells := fun hd hH i s hi hu => by
    have h1 := hH i s hi hu
    have hvs : s.val n m = true := by
      simp only [vals, List.all_eq_true] at hv
      exact hv s (List.mem_of_getElem? hi)
    rw [adr_congr i hr, S.tr_congr hA s hvs, cell?_block (w := w) (by exact hb hd)]
    exact h1
  cases hst : B.st with
  | dead => simp only [hst]
  | ro => simp only [hst] at *; rw [hr]; exact ⟨by omega, hH (by simp) h.2⟩
  | rw =>
    simp only [hst] at *
    rw [hr]
    refine ⟨by omega, hH (by simp) h.2.1, h.2.2.1, fun i hi => ?_⟩
    rw [adr_congr i hr, cell?_block (w := w) (by exact hb (by simp)), frozen?_block (w := w) (by exact hb (by simp))]
    exact h.2.2.2 i hi

/-! ### blocks -/
theorem blk_set (h ls : List Blk) (r r' : R) (B : Blk) :
    blk (setH h r B) (setL ls r B) r' = if r = r' then (blk h ls r).map (fun _ => B) else blk h ls r' := by
  cases r <;> cases r' <;> simp only [blk, setH, setL, List.getElem?_set, R.g.injEq, R.l.injEq, reduceCtorEq, if_false] <;> split <;> (try rfl)
  all_goals (rename_i e; subst e; split <;> simp_all)

theorem setH_length (h : List Blk) (r : R) (B : Blk) : (setH h r B).length = h.length := by cases r <;> simp [setH]
theorem setL_length (ls : List Blk) (r : R) (B : Blk) : (setL ls r B).length = ls.length := by cases r <;> simp [setL]

theorem mem_setH {h : List Blk} {r : R} {B X : Blk} (hx : X ∈ setH h r B) : X ∈ h ∨ (X = B ∧ ∃ k, r = .g k) := by
  cases r with
  | g k => simp only [setH] at hx; rcases List.mem_or_eq_of_mem_set hx with h | h; exact .inl h; exact .inr ⟨h, k, rfl⟩
  | l k => exact .inl hx
theorem mem_setL {ls : List Blk} {r : R} {B X : Blk} (hx : X ∈ setL ls r B) : X ∈ ls ∨ (X = B ∧ ∃ k, r = .l k) := by
  cases r with
  | g k => exact .inl hx
  | l k => simp only [setL] at hx; rcases List.mem_or_eq_of_mem_set hx with h | h; exact .inl h; exact .inr ⟨h, k, rfl⟩

theorem Sim.bval {σ : Sg} {h ls : List Blk} {w : World} (H : Sim σ h ls w) {r : R} {B : Blk} (hb : blk h ls r = some B) : vals h.length ls.length B.cells = true := by
  cases r with
  | g k => exact vals_mono (Nat.le_refl _) (Nat.zero_le _) (H.gval B (List.mem_of_getElem? hb))
  | l k => exact H.lval B (List.mem_of_getElem? hb)

/-- A cell that is read. -/
theorem Sim.cell {σ : Sg} {h ls : List Blk} {w : World} (H : Sim σ h ls w) {r : R} {B : Blk} (hb : blk h ls r = some B) (hd : B.st ≠ .dead) {o : Nat} {s : S}
    (hs : B.cells[o]? = some s) (hu : s ≠ .u) : w.cell? (adr σ r o) = some (s.tr σ) := by
  have := H.ok r B hb
  unfold OkBlk at this
  cases hst : B.st with
  | dead => exact absurd hst hd
  | ro => rw [hst] at this; exact this.2 o s hs hu
  | rw => rw [hst] at this; exact this.2.1 o s hs hu

/-- A draw changes nothing. -/
theorem Sim.drawn {σ : Sg} {h ls : List Blk} {w : World} (H : Sim σ h ls w) (n : Nat) : Sim σ h ls { w with drawn := n } :=
  ⟨H.ok, H.sep, H.gval, H.lval⟩

theorem Inv.drawn {σ0 : Sg} {h0 : List Blk} {w0 : World} {σ : Sg} {h ls : List Blk} {w : World} (H : Inv σ0 h0 w0 σ h ls w) (n : Nat) : Inv σ0 h0 w0 σ h ls { w with drawn := n } :=
  ⟨H.sim.drawn n, ⟨⟨H.kept.same.os, H.kept.same.tape, H.kept.same.output, H.kept.same.size⟩, H.kept.keep⟩, H.len, H.old, H.mine, H.new, H.live⟩

end Go.D
