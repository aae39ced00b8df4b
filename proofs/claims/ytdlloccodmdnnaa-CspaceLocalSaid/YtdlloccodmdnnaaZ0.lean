/- Soundness: regions, code, functions. -/
import Derived.WalkKit
import Derived.Deep.Quiet
import Derived.StillTail
import Derived.OrdersHeld
import Derived.ChangeKeysEq
import Derived.Laws.StructEq
/- The base of the calculus: abstract values, blocks, and how they stand in a world. -/
namespace Go.D
set_option linter.all false

/-- A reference to a block: one of the shared heap, or one of the running function's own. -/
inductive R where
  | g (k : Nat)
  | l (k : Nat)
  deriving DecidableEq

/-- A scalar. 'u': nothing is known. -/
inductive S where
  | u
  | b (x : Bool)
  | i (k : IntKind) (n : Int)
  | p (r : R) (o : Nat)
  | np
  | sl (r : R) (o len cap : Nat)
  | ns
  | es (a : Addr) (cap : Nat)
  | fn (f : FuncId) (cs : List (R × Nat))
  | nf

inductive C where
  | s (x : S)
  | agg (xs : List S)

inductive V where
  | s (x : S)
  | agg (xs : List S)
  | tup (xs : List C)

/-- Where the blocks lie: block number and first offset. -/
abbrev Sg := R → Nat × Nat

def adr (σ : Sg) (r : R) (o : Nat) : Addr := ⟨(σ r).1, (σ r).2 + o, none⟩

def S.tr (σ : Sg) : S → Value
  | .u => .tuple #[]
  | .b x => .bool x
  | .i k n => .int k n
  | .p r o => .pointer (some (adr σ r o))
  | .np => .pointer none
  | .sl r o n c => .slice (some (adr σ r o)) n c
  | .ns => .slice none 0 0
  | .es a c => .slice (some a) 0 c
  | .fn f cs => .func (.func f) #[] (cs.map fun x => Value.pointer (some (adr σ x.1 x.2))).toArray
  | .nf => .nilFunc

def trs (σ : Sg) (xs : List S) : Array Value := (xs.map (S.tr σ)).toArray

def C.tr (σ : Sg) : C → Value
  | .s x => x.tr σ
  | .agg xs => .agg (trs σ xs)

def V.tr (σ : Sg) : V → Value
  | .s x => x.tr σ
  | .agg xs => .agg (trs σ xs)
  | .tup cs => .tuple (cs.map (C.tr σ)).toArray

/-- Is a reference one of so many shared and so many own blocks? -/
def R.val (n m : Nat) : R → Bool
  | .g k => decide (k < n)
  | .l k => decide (k < m)

def S.val (n m : Nat) : S → Bool
  | .p r _ => r.val n m
  | .sl r _ _ _ => r.val n m
  | .fn _ cs => cs.all fun x => x.1.val n m
  | _ => true

def vals (n m : Nat) (xs : List S) : Bool := xs.all (S.val n m)

def C.val (n m : Nat) : C → Bool
  | .s x => x.val n m
  | .agg xs => vals n m xs

def V.val (n m : Nat) : V → Bool
  | .s x => x.val n m
  | .agg xs => vals n m xs
  | .tup cs => cs.all (C.val n m)

/-- What may be done with a block. -/
inductive BK where
  | rw | ro | dead
  deriving DecidableEq

structure Blk where
  st : BK
  cells : List S
  room : Nat

def blk (h ls : List Blk) : R → Option Blk
  | .g k => h[k]?
  | .l k => ls[k]?

def setH (h : List Blk) (r : R) (B : Blk) : List Blk :=
  match r with
  | .g k => h.set k B
  | .l _ => h
def setL (ls : List Blk) (r : R) (B : Blk) : List Blk :=
  match r with
  | .g _ => ls
  | .l k => ls.set k B

/-- The cells of a block stand in a world. -/
def Holds (σ : Sg) (w : World) (r : R) (cells : List S) : Prop :=
  ∀ i s, cells[i]? = some s → s ≠ .u → w.cell? (adr σ r i) = some (s.tr σ)

def OkBlk (σ : Sg) (w : World) (r : R) (B : Blk) : Prop :=
  match B.st with
  | .dead => True
  | .ro => (σ r).1 < w.heap.size ∧ Holds σ w r B.cells
  | .rw => (σ r).1 < w.heap.size ∧ Holds σ w r B.cells ∧ B.cells.length ≤ B.room ∧
      ∀ i, i < B.room → (w.cell? (adr σ r i)).isSome = true ∧ w.frozen? (adr σ r i) = false

structure Sim (σ : Sg) (h ls : List Blk) (w : World) : Prop where
  ok : ∀ r B, blk h ls r = some B → OkBlk σ w r B
  sep : ∀ r r' B B', blk h ls r = some B → blk h ls r' = some B' → r ≠ r' → B.st = .rw → B'.st ≠ .dead → (σ r).1 ≠ (σ r').1
  gval : ∀ B, B ∈ h → vals h.length 0 B.cells = true
  lval : ∀ B, B ∈ ls → vals h.length ls.length B.cells = true

/-- The streams, the schedule and the clock are as they were. -/
structure Same (w w' : World) : Prop where
  os : w'.os = w.os
  tape : w'.tape = w.tape
  output : w'.output = w.output
  size : w.heap.size ≤ w'.heap.size

theorem Same.refl (w : World) : Same w w := ⟨rfl, rfl, rfl, Nat.le_refl _⟩
theorem Same.trans {a b c : World} (h : Same a b) (k : Same b c) : Same a c :=
  ⟨k.os.trans h.os, k.tape.trans h.tape, k.output.trans h.output, Nat.le_trans h.size k.size⟩

/-- Of what lay in the world, only the blocks of the shared heap that may be written have changed. -/
structure Kept (σ : Sg) (h : List Blk) (w w' : World) : Prop where
  same : Same w w'
  keep : ∀ b, b < w.heap.size → (∀ k B, h[k]? = some B → B.st = .rw → (σ (.g k)).1 ≠ b) → w'.heap[b]? = w.heap[b]?

/-- How the running function stands to the world in which it began: its place is (σ0, h0, w0). -/
structure Inv (σ0 : Sg) (h0 : List Blk) (w0 : World) (σ : Sg) (h ls : List Blk) (w : World) : Prop where
  sim : Sim σ h ls w
  kept : Kept σ0 h0 w0 w
  len : h0.length ≤ h.length
  old : ∀ k, k < h0.length → σ (.g k) = σ0 (.g k)
  mine : ∀ r B, blk h ls r = some B → B.st = .rw → (∃ k B0, r = .g k ∧ h0[k]? = some B0 ∧ B0.st = .rw) ∨ w0.heap.size ≤ (σ r).1
  new : ∀ k, h0.length ≤ k → k < h.length → w0.heap.size ≤ (σ (.g k)).1
  live : ∀ (k : Nat) (B0 B : Blk), h0[k]? = some B0 → h[k]? = some B → B.st ≠ .dead → B0.st ≠ .dead

/-! ### translation hangs on the valid references alone -/

theorem adr_congr {σ σ' : Sg} {r : R} (o : Nat) (h : σ' r = σ r) : adr σ' r o = adr σ r o := by simp [adr, h]

/-- Two placings agree on so many references. -/
def Agree (n m : Nat) (σ σ' : Sg) : Prop := ∀ r, r.val n m = true → σ' r = σ r

theorem S.tr_congr {σ σ' : Sg} {n m : Nat} (hA : Agree n m σ σ') (s : S) (hv : s.val n m = true) : s.tr σ' = s.tr σ := by
  cases s with
  | p r o => simp only [S.val] at hv; simp only [S.tr, adr_congr o (hA r hv)]
  | sl r o a c => simp only [S.val] at hv; simp only [S.tr, adr_congr o (hA r hv)]
  | fn f cs =>
    simp only [S.val, List.all_eq_true] at hv
    simp only [S.tr]
    congr 2
    refine List.map_congr_left fun x hx => ?_
    rw [adr_congr x.2 (hA x.1 (hv x hx))]
  | _ => rfl

theorem trs_congr {σ σ' : Sg} {n m : Nat} (hA : Agree n m σ σ') (xs : List S) (hv : vals n m xs = true) : trs σ' xs = trs σ xs := by
  simp only [vals, List.all_eq_true] at hv
  simp only [trs]
  congr 1
  exact List.map_congr_left fun x hx => S.tr_congr hA x (hv x hx)

theorem C.tr_congr {σ σ' : Sg} {n m : Nat} (hA : Agree n m σ σ') (c : C) (hv : c.val n m = true) : c.tr σ' = c.tr σ := by
  cases c with
  | s x => exact S.tr_congr hA x hv
  | agg xs => simp only [C.tr, trs_congr hA xs hv]

theorem V.tr_congr {σ σ' : Sg} {n m : Nat} (hA : Agree n m σ σ') (v : V) (hv : v.val n m = true) : v.tr σ' = v.tr σ := by
  cases v with
  | s x => exact S.tr_congr hA x hv
  | agg xs => simp only [V.tr, trs_congr hA xs hv]
  | tup cs =>
    simp only [V.val, List.all_eq_true] at hv
    simp only [V.tr]
    congr 2
    exact List.map_congr_left fun x hx => C.tr_congr hA x (hv x hx)

theorem R.val_mono {n m n' m' : Nat} (hn : n ≤ n') (hm : m ≤ m') {r : R} (h : r.val n m = true) : r.val n' m' = true := by
  cases r <;> simp only [R.val, decide_eq_true_eq] at * <;> omega
theorem S.val_mono {n m n' m' : Nat} (hn : n ≤ n') (hm : m ≤ m') {s : S} (h : s.val n m = true) : s.val n' m' = true := by
  cases s with
  | p r o => exact R.val_mono hn hm h
  | sl r o a c => exact R.val_mono hn hm h
  | fn f cs => simp only [S.val, List.all_eq_true] at *; exact fun x hx => R.val_mono hn hm (h x hx)
  | _ => rfl
theorem vals_mono {n m n' m' : Nat} (hn : n ≤ n') (hm : m ≤ m') {xs : List S} (h : vals n m xs = true) : vals n' m' xs = true := by
  simp only [vals, List.all_eq_true] at *; exact fun x hx => S.val_mono hn hm (h x hx)
theorem C.val_mono {n m n' m' : Nat} (hn : n ≤ n') (hm : m ≤ m') {c : C} (h : c.val n m = true) : c.val n' m' = true := by
  cases c with
  | s x => exact S.val_mono hn hm h
  | agg xs => exact vals_mono hn hm h
theorem V.val_mono {n m n' m' : Nat} (hn : n ≤ n') (hm : m ≤ m') {v : V} (h : v.val n m = true) : v.val n' m' = true := by
  cases v with
  | s x => exact S.val_mono hn hm h
  | agg xs => exact vals_mono hn hm h
  | tup cs => simp only [V.val, List.all_eq_true] at *; exact fun x hx => C.val_mono hn hm (h x hx)

/-! ### worlds that agree on a block -/

theorem cell?_block {w w' : World} {a : Addr} (h : w'.heap[a.block]? = w.heap[a.block]?) : w'.cell? a = w.cell? a := by
  simp [World.cell?, h]
theorem frozen?_block {w w' : World} {a : Addr} (h : w'.heap[a.block]? = w.heap[a.block]?) : w'.frozen? a = w.frozen? a := by
  simp [World.frozen?, h]

/-- A block that stands in a world stands in each that has the same there. -/
theorem OkBlk.move {σ σ' : Sg} {w w' : World} {r : R} {B : Blk} {n m : Nat} (h : OkBlk σ w r B) (hr : σ' r = σ r) (hA : Agree n m σ σ')
    (hv : vals n m B.cells = true) (hs : w.heap.size ≤ w'.heap.size) (hb : B.st ≠ .dead → w'.heap[(σ r).1]? = w.heap[(σ r).1]?) : OkBlk σ' w' r B := by
  unfold OkBlk at *
  have hH : B.st ≠ .dead → Holds σ w r B.cells → Holds σ' w' r B.cells := fun hd hH i s hi hu => by
    have h1 := hH i s hi hu
    have hvs : s.val n m = true := by
      simp only [vals, List.all_eq_true] at hv
      exact hv s (List.mem_of_getElem? hi)
    rw [adr_congr i hr, S.tr_congr hA s hvs, cell?_block (w := w) (by exact hb hd)]
    exact h1
  cases hst : B.st with
  | dead => simp only [hst]
  | ro => simp only [hst] at *; rw [hr]; exact ⟨by omega, hH (by simp) h.2⟩
  | rw =>
    simp only [hst] at *
    rw [hr]
    refine ⟨by omega, hH (by simp) h.2.1, h.2.2.1, fun i hi => ?_⟩
    rw [adr_congr i hr, cell?_block (w := w) (by exact hb (by simp)), frozen?_block (w := w) (by exact hb (by simp))]
    exact h.2.2.2 i hi

/-! ### blocks -/
theorem blk_set (h ls : List Blk) (r r' : R) (B : Blk) :
    blk (setH h r B) (setL ls r B) r' = if r = r' then (blk h ls r).map (fun _ => B) else blk h ls r' := by
  cases r <;> cases r' <;> simp only [blk, setH, setL, List.getElem?_set, R.g.injEq, R.l.injEq, reduceCtorEq, if_false] <;> split <;> (try rfl)
  all_goals (rename_i e; subst e; split <;> simp_all)

theorem setH_length (h : List Blk) (r : R) (B : Blk) : (setH h r B).length = h.length := by cases r <;> simp [setH]
theorem setL_length (ls : List Blk) (r : R) (B : Blk) : (setL ls r B).length = ls.length := by cases r <;> simp [setL]

theorem mem_setH {h : List Blk} {r : R} {B X : Blk} (hx : X ∈ setH h r B) : X ∈ h ∨ (X = B ∧ ∃ k, r = .g k) := by
  cases r with
  | g k => simp only [setH] at hx; rcases List.mem_or_eq_of_mem_set hx with h | h; exact .inl h; exact .inr ⟨h, k, rfl⟩
  | l k => exact .inl hx
theorem mem_setL {ls : List Blk} {r : R} {B X : Blk} (hx : X ∈ setL ls r B) : X ∈ ls ∨ (X = B ∧ ∃ k, r = .l k) := by
  cases r with
  | g k => exact .inl hx
  | l k => simp only [setL] at hx; rcases List.mem_or_eq_of_mem_set hx with h | h; exact .inl h; exact .inr ⟨h, k, rfl⟩

theorem Sim.bval {σ : Sg} {h ls : List Blk} {w : World} (H : Sim σ h ls w) {r : R} {B : Blk} (hb : blk h ls r = some B) : vals h.length ls.length B.cells = true := by
  cases r with
  | g k => exact vals_mono (Nat.le_refl _) (Nat.zero_le _) (H.gval B (List.mem_of_getElem? hb))
  | l k => exact H.lval B (List.mem_of_getElem? hb)

/-- A cell that is read. -/
theorem Sim.cell {σ : Sg} {h ls : List Blk} {w : World} (H : Sim σ h ls w) {r : R} {B : Blk} (hb : blk h ls r = some B) (hd : B.st ≠ .dead) {o : Nat} {s : S}
    (hs : B.cells[o]? = some s) (hu : s ≠ .u) : w.cell? (adr σ r o) = some (s.tr σ) := by
  have := H.ok r B hb
  unfold OkBlk at this
  cases hst : B.st with
  | dead => exact absurd hst hd
  | ro => rw [hst] at this; exact this.2 o s hs hu
  | rw => rw [hst] at this; exact this.2.1 o s hs hu

/-- A draw changes nothing. -/
theorem Sim.drawn {σ : Sg} {h ls : List Blk} {w : World} (H : Sim σ h ls w) (n : Nat) : Sim σ h ls { w with drawn := n } :=
  ⟨H.ok, H.sep, H.gval, H.lval⟩

theorem Inv.drawn {σ0 : Sg} {h0 : List Blk} {w0 : World} {σ : Sg} {h ls : List Blk} {w : World} (H : Inv σ0 h0 w0 σ h ls w) (n : Nat) : Inv σ0 h0 w0 σ h ls { w with drawn := n } :=
  ⟨H.sim.drawn n, ⟨⟨H.kept.same.os, H.kept.same.tape, H.kept.same.output, H.kept.same.size⟩, H.kept.keep⟩, H.len, H.old, H.mine, H.new, H.live⟩

end Go.D

/- How stores, new blocks and a block that is remade keep what is known of the blocks. -/
namespace Go.D
set_option linter.all false

/-- What may be put into a block: into a shared one nothing of the function's own. -/
def R.takes (r : R) (n m : Nat) (s : S) : Bool :=
  match r with
  | .g _ => s.val n 0
  | .l _ => s.val n m

theorem R.takes_val {r : R} {n m : Nat} {s : S} (h : r.takes n m s = true) : s.val n m = true := by
  cases r with
  | g k => exact S.val_mono (Nat.le_refl _) (Nat.zero_le _) h
  | l k => exact h

theorem vals_set {n m o : Nat} {xs : List S} {s : S} (h : vals n m xs = true) (hs : s.val n m = true) : vals n m (xs.set o s) = true := by
  simp only [vals, List.all_eq_true] at *
  intro x hx
  rcases List.mem_or_eq_of_mem_set hx with h1 | h1
  · exact h x h1
  · subst h1; exact hs

theorem setL_lval {h ls : List Blk} {r : R} {B : Blk} {n m : Nat} (hl : ∀ X, X ∈ ls → vals n m X.cells = true) (hB : (∃ k, r = .l k) → vals n m B.cells = true) :
    ∀ X, X ∈ setL ls r B → vals n m X.cells = true := by
  intro X hX
  rcases mem_setL hX with h1 | ⟨h1, h2⟩
  · exact hl X h1
  · subst h1; exact hB h2

section
variable {σ0 : Sg} {h0 : List Blk} {w0 : World} {σ : Sg} {h ls : List Blk} {w : World}

theorem Inv.outside (H : Inv σ0 h0 w0 σ h ls w) {r : R} {B : Blk} (hb : blk h ls r = some B) (hst : B.st = .rw) {b : Nat} (hlt : b < w0.heap.size)
    (hno : ∀ k B, h0[k]? = some B → B.st = .rw → (σ0 (.g k)).1 ≠ b) : b ≠ (σ r).1 := by
  rcases H.mine r B hb hst with ⟨k, B0, rfl, hk, hB0⟩ | hge
  · have hlt' : k < h0.length := by
      rcases Nat.lt_or_ge k h0.length with h1 | h1
      · exact h1
      · rw [List.getElem?_eq_none h1] at hk; cases hk
    rw [H.old k hlt']
    exact (hno k B0 hk hB0).symm
  · omega

theorem Inv.store1 (H : Inv σ0 h0 w0 σ h ls w) {r : R} {B : Blk} (hb : blk h ls r = some B) (hst : B.st = .rw) {o : Nat} (ho : o < B.cells.length) {s : S} (_hs : s ≠ .u)
    (hv : r.takes h.length ls.length s = true) :
    Inv σ0 h0 w0 σ (setH h r { B with cells := B.cells.set o s }) (setL ls r { B with cells := B.cells.set o s }) (w.setCell (adr σ r o) (s.tr σ)) := by
  have hok := H.sim.ok r B hb
  unfold OkBlk at hok
  rw [hst] at hok
  obtain ⟨k1, k2, k3, k4⟩ := hok
  have hroom := k4 o (by omega)
  have hsome : ∃ u, w.cell? (adr σ r o) = some u := Option.isSome_iff_exists.1 hroom.1
  obtain ⟨u0, hu0⟩ := hsome
  have hother : ∀ b, b ≠ (σ r).1 → (w.setCell (adr σ r o) (s.tr σ)).heap[b]? = w.heap[b]? := fun b hne =>
    Go.RowKit.Below.heap_setCell _ _ _ _ hne
  refine ⟨⟨?_, ?_, ?_, ?_⟩, ⟨⟨?_, ?_, ?_, ?_⟩, ?_⟩, ?_, ?_, ?_, ?_, ?_⟩
  · intro r' B' hb'
    rw [blk_set] at hb'
    by_cases hr : r = r'
    · subst hr
      rw [if_pos rfl, hb] at hb'
      simp only [Option.map_some, Option.some.injEq] at hb'
      subst hb'
      unfold OkBlk
      simp only [hst, World.size_setCell, List.length_set]
      refine ⟨k1, fun i s' hi hu => ?_, k3, fun i hi => ⟨?_, ?_⟩⟩
      · by_cases hio : i = o
        · subst hio
          rw [List.getElem?_set_self ho] at hi
          cases hi
          exact World.cell?_setCell_same _ _ _ hu0
        · rw [List.getElem?_set_ne (by omega)] at hi
          rw [World.cell?_setCell_other _ _ _ _ (by simp only [adr, ne_eq, Addr.mk.injEq, not_and]; omega)]
          exact k2 i s' hi hu
      · by_cases hio : i = o
        · subst hio; rw [World.cell?_setCell_same _ _ _ hu0]; rfl
        · rw [World.cell?_setCell_other _ _ _ _ (by simp only [adr, ne_eq, Addr.mk.injEq, not_and]; omega)]
          exact (k4 i hi).1
      · rw [World.frozen?_setCell]; exact (k4 i hi).2
    · rw [if_neg hr] at hb'
      refine (H.sim.ok r' B' hb').move rfl (n := h.length) (m := ls.length) (fun _ _ => rfl) (H.sim.bval hb') (by simp) (fun hd => hother _ ?_)
      exact (H.sim.sep r r' B B' hb hb' hr hst hd).symm
  · intro r1 r2 B1 B2 hb1 hb2 hne hs1 hs2
    rw [blk_set] at hb1 hb2
    by_cases e1 : r = r1
    · subst e1
      rw [if_neg hne] at hb2
      exact H.sim.sep r r2 B B2 hb hb2 hne hst hs2
    · rw [if_neg e1] at hb1
      by_cases e2 : r = r2
      · subst e2
        exact H.sim.sep r1 r B1 B hb1 hb hne hs1 (by rw [hst]; simp)
      · rw [if_neg e2] at hb2
        exact H.sim.sep r1 r2 B1 B2 hb1 hb2 hne hs1 hs2
  · intro X hX
    rw [setH_length]
    rcases mem_setH hX with h1 | ⟨h1, k, h2⟩
    · exact H.sim.gval X h1
    · subst h1; subst h2
      exact vals_set (H.sim.gval B (List.mem_of_getElem? hb)) hv
  · intro X hX
    rw [setH_length, setL_length]
    rcases mem_setL hX with h1 | ⟨h1, k, h2⟩
    · exact H.sim.lval X h1
    · subst h1; subst h2
      exact vals_set (H.sim.lval B (List.mem_of_getElem? hb)) hv
  · exact H.kept.same.os
  · exact H.kept.same.tape
  · exact H.kept.same.output
  · rw [World.size_setCell]; exact H.kept.same.size
  · intro b hlt hno
    rw [hother b (H.outside hb hst hlt hno)]
    exact H.kept.keep b hlt hno
  · rw [setH_length]; exact H.len
  · exact H.old
  · intro r' B' hb' hst'
    rw [blk_set] at hb'
    by_cases hr : r = r'
    · subst hr
      exact H.mine r B hb hst
    · rw [if_neg hr] at hb'
      exact H.mine r' B' hb' hst'
  · rw [setH_length]; exact H.new
  · intro k B0 B' hk0 hk hd
    cases r with
    | l j => exact H.live k B0 B' hk0 hk hd
    | g j =>
      simp only [setH, List.getElem?_set] at hk
      split at hk
      · rename_i e; subst e
        exact H.live j B0 B hk0 hb (by rw [hst]; simp)
      · exact H.live k B0 B' hk0 hk hd

/-- Where a fresh own block lies. -/
def lay (σ : Sg) (r : R) (x : Nat × Nat) : Sg := fun r' => if r' = r then x else σ r'

theorem agree_lay (σ : Sg) (n m k : Nat) (x : Nat × Nat) (h : m ≤ k) : Agree n m σ (lay σ (.l k) x) := by
  intro r hr
  unfold lay
  split
  · rename_i e; subst e; simp only [R.val, decide_eq_true_eq] at hr; omega
  · rfl

theorem blk_append (h ls : List Blk) (B : Blk) (r : R) : blk h (ls ++ [B]) r = if r = .l ls.length then some B else blk h ls r := by
  cases r with
  | g k => simp [blk]
  | l k =>
    simp only [blk, R.l.injEq]
    by_cases e : k = ls.length
    · subst e; simp
    · rw [if_neg e]
      rcases Nat.lt_or_ge k ls.length with h1 | h1
      · rw [List.getElem?_append_left h1]
      · rw [List.getElem?_eq_none h1, List.getElem?_eq_none (by simp; omega)]

theorem blk_val {h ls : List Blk} {r : R} {B : Blk} (hb : blk h ls r = some B) : r.val h.length ls.length = true := by
  cases r <;> simp only [blk] at hb <;> simp only [R.val, decide_eq_true_eq] <;> exact (List.getElem?_eq_some_iff.1 hb).1

theorem Inv.alloc (H : Inv σ0 h0 w0 σ h ls w) (cells : List S) (T : TypeId) (extra : Array Value) (hv : vals h.length ls.length cells = true) :
    Inv σ0 h0 w0 (lay σ (.l ls.length) (w.heap.size, 0)) h (ls ++ [⟨.rw, cells, cells.length + extra.size⟩]) (w.alloc (.cells (trs σ cells ++ extra) T)) := by
  have hA : Agree h.length ls.length σ (lay σ (.l ls.length) (w.heap.size, 0)) := agree_lay _ _ _ _ _ (Nat.le_refl _)
  have hold : ∀ b, b < w.heap.size → (w.alloc (.cells (trs σ cells ++ extra) T)).heap[b]? = w.heap[b]? := fun b hb => Go.RowKit.Below.heap_alloc _ _ _ hb
  have hlt : ∀ r B, blk h ls r = some B → B.st ≠ .dead → (σ r).1 < w.heap.size := fun r B hb hd => by
    have := H.sim.ok r B hb
    unfold OkBlk at this
    cases hst : B.st with
    | dead => exact absurd hst hd
    | ro => rw [hst] at this; exact this.1
    | rw => rw [hst] at this; exact this.1
  have hsame : ∀ r B, blk h ls r = some B → lay σ (.l ls.length) (w.heap.size, 0) r = σ r := fun r B hb => hA r (blk_val hb)
  refine ⟨⟨?_, ?_, ?_, ?_⟩, ⟨⟨?_, ?_, ?_, ?_⟩, ?_⟩, ?_, ?_, ?_, ?_, ?_⟩
  · intro r B hb
    rw [blk_append] at hb
    by_cases e : r = .l ls.length
    · subst e
      rw [if_pos rfl] at hb
      cases hb
      unfold OkBlk
      simp only
      have hadr : ∀ i, adr (lay σ (.l ls.length) (w.heap.size, 0)) (.l ls.length) i = ⟨w.heap.size, i, none⟩ := fun i => by simp [adr, lay]
      have hsz : (trs σ cells).size = cells.length := by simp [trs]
      refine ⟨by simp [lay], fun i s hi _ => ?_, by omega, fun i hi => ?_⟩
      · rw [hadr, World.cell?_alloc_new]
        have hil : i < cells.length := (List.getElem?_eq_some_iff.1 hi).1
        have hvs : s.val h.length ls.length = true := by
          simp only [vals, List.all_eq_true] at hv; exact hv s (List.mem_of_getElem? hi)
        rw [Array.getElem?_append_left (by omega), S.tr_congr hA s hvs]
        simp [trs, hi]
      · rw [hadr, World.cell?_alloc_new, World.frozen?_alloc_new]
        refine ⟨?_, rfl⟩
        rw [Array.getElem?_eq_getElem (by simp; omega)]; rfl
    · rw [if_neg e] at hb
      refine (H.sim.ok r B hb).move (hsame r B hb) hA (H.sim.bval hb) (by simp) (fun hd => hold _ (hlt r B hb hd))
  · intro r1 r2 B1 B2 hb1 hb2 hne hs1 hs2
    rw [blk_append] at hb1 hb2
    by_cases e1 : r1 = .l ls.length
    · subst e1
      rw [if_neg (Ne.symm hne)] at hb2
      rw [hsame r2 B2 hb2]
      have := hlt r2 B2 hb2 hs2
      simp only [lay, if_true]; omega
    · rw [if_neg e1] at hb1
      rw [hsame r1 B1 hb1]
      have := hlt r1 B1 hb1 (by rw [hs1]; simp)
      by_cases e2 : r2 = .l ls.length
      · subst e2; simp only [lay, if_true]; omega
      · rw [if_neg e2] at hb2
        rw [hsame r2 B2 hb2]
        exact H.sim.sep r1 r2 B1 B2 hb1 hb2 hne hs1 hs2
  · exact H.sim.gval
  · intro X hX
    simp only [List.mem_append, List.mem_singleton] at hX
    rcases hX with h1 | h1
    · exact vals_mono (Nat.le_refl _) (by simp) (H.sim.lval X h1)
    · subst h1; exact vals_mono (Nat.le_refl _) (by simp) hv
  · exact H.kept.same.os
  · exact H.kept.same.tape
  · exact H.kept.same.output
  · have := H.kept.same.size; simp; omega
  · intro b hlt' hno
    rw [hold b (by have := H.kept.same.size; omega)]
    exact H.kept.keep b hlt' hno
  · exact H.len
  · intro k hk; rw [show lay σ (.l ls.length) (w.heap.size, 0) (.g k) = σ (.g k) by simp [lay]]; exact H.old k hk
  · intro r B hb hst
    rw [blk_append] at hb
    by_cases e : r = .l ls.length
    · subst e; right; simp only [lay, if_true]; exact H.kept.same.size
    · rw [if_neg e] at hb; rw [hsame r B hb]; exact H.mine r B hb hst
  · intro k hk hk'
    rw [show lay σ (.l ls.length) (w.heap.size, 0) (.g k) = σ (.g k) by simp [lay]]
    exact H.new k hk hk'
  · exact H.live

end

/-- Scalars are laid over cells, from an offset on. -/
def put (xs : List S) (o : Nat) : List S → List S
  | [] => xs
  | v :: vs => put (xs.set o v) (o + 1) vs

theorem put_length (xs : List S) (o : Nat) (vs : List S) : (put xs o vs).length = xs.length := by
  induction vs generalizing xs o with
  | nil => rfl
  | cons v vs ih => simp [put, ih]

theorem set_same {α : Type} {l : List α} {k : Nat} {x : α} (h : l[k]? = some x) : l.set k x = l := by
  apply List.ext_getElem?
  intro i
  rw [List.getElem?_set]
  split
  · rename_i e; subst e; split
    · exact h.symm
    · rename_i hn; rw [List.getElem?_eq_none (by omega)] at h; cases h
  · rfl

/-- None of them is unknown. -/
def known (vs : List S) : Bool := vs.all fun s => match s with | .u => false | _ => true

theorem S.oneCell {s : S} (h : s ≠ .u) (σ : Sg) : (s.tr σ).oneCell' = true := by
  cases s <;> first | rfl | exact absurd rfl h

theorem storeCells_run {P : Program} {σ0 : Sg} {h0 : List Blk} {w0 : World} {σ : Sg} (r : R) (o : Nat) : ∀ (vs : List S) (i : Nat) (h ls : List Blk) (w : World) (B : Blk),
    Inv σ0 h0 w0 σ h ls w → blk h ls r = some B → B.st = .rw → o + i + vs.length ≤ B.cells.length → known vs = true → vs.all (r.takes h.length ls.length) = true →
    ∃ w', (storeCells (adr σ r o) (vs.map (S.tr σ)) i).run P w = .ok () w' ∧
      Inv σ0 h0 w0 σ (setH h r { B with cells := put B.cells (o + i) vs }) (setL ls r { B with cells := put B.cells (o + i) vs }) w'
  | [], i, h, ls, w, B, H, hb, _, _, _, _ => by
    refine ⟨w, by simp [storeCells], ?_⟩
    have e1 : setH h r { B with cells := put B.cells (o + i) [] } = h := by
      cases r with
      | g k => simp only [setH, put]; exact set_same hb
      | l k => rfl
    have e2 : setL ls r { B with cells := put B.cells (o + i) [] } = ls := by
      cases r with
      | g k => rfl
      | l k => simp only [setL, put]; exact set_same hb
    rw [e1, e2]; exact H
  | v :: vs, i, h, ls, w, B, H, hb, hst, hlen, hk, hv => by
    simp only [List.length_cons] at hlen
    simp only [known, List.all_cons, Bool.and_eq_true] at hk
    simp only [List.all_cons, Bool.and_eq_true] at hv
    have hvu : v ≠ .u := by rintro rfl; simp at hk
    have hok := H.sim.ok r B hb
    unfold OkBlk at hok
    rw [hst] at hok
    have hroom := hok.2.2.2 (o + i) (by have := hok.2.2.1; omega)
    obtain ⟨u0, hu0⟩ := Option.isSome_iff_exists.1 hroom.1
    have H1 := H.store1 hb hst (o := o + i) (by omega) hvu hv.1
    have hb1 : blk (setH h r { B with cells := B.cells.set (o + i) v }) (setL ls r { B with cells := B.cells.set (o + i) v }) r = some { B with cells := B.cells.set (o + i) v } := by
      rw [blk_set, if_pos rfl, hb]; rfl
    obtain ⟨w', hr, H2⟩ := storeCells_run (P := P) r o vs (i + 1) _ _ _ _ H1 hb1 hst (by simp; omega) hk.2 (by
      simp only [setH_length, setL_length]; exact hv.2)
    refine ⟨w', ?_, ?_⟩
    · have hadd : (adr σ r o).add i = adr σ r (o + i) := by
        unfold Addr.add adr; split
        · rename_i e; subst e; rfl
        · simp [Nat.add_assoc]
      simp only [List.map_cons, storeCells, Sem.run_bind, hadd, run_store P w _ _ _ (S.oneCell hvu σ), hu0, hroom.2, Bool.false_eq_true, if_false, Result.andThen_ok]
      exact hr
    · have e1 : ∀ X Y : Blk, setH (setH h r X) r Y = setH h r Y := fun X Y => by cases r <;> simp [setH]
      have e2 : ∀ X Y : Blk, setL (setL ls r X) r Y = setL ls r Y := fun X Y => by cases r <;> simp [setL]
      rw [e1, e2] at H2
      simp only [put]
      rw [show o + i + 1 = o + (i + 1) by omega]
      exact H2

end Go.D

/- The small code, and what must hold ahead of it (weakest preconditions over the abstract state). -/
namespace Go.D
set_option linter.all false

inductive Opd where
  | t (i : Nat)
  | k (v : V)

inductive I where
  | mv (x : Opd)
  | pick (c a b : Opd)
  | new (zero : List S)
  | box (x : Opd)
  | build (zero : List S) (parts : List (Nat × Nat × Opd))
  | bsl (len : Nat) (zero : List S) (parts : List (Nat × Nat × Opd))
  | ld (a : Opd) (n : Option Nat)
  | st (a x : Opd) (n : Nat)
  | nil (x : Opd)
  | bin (op : BinOp) (x y : Opd)
  | eqb (neg : Bool) (x y : Opd)
  | eqa (neg : Bool) (ks : List Bool) (x y : Opd)
  | eqn (isSl neg : Bool) (x : Opd)
  | un (op : UnOp) (x : Opd)
  | conv (k : IntKind) (x : Opd)
  | mkf (f : FuncId) (caps : List Opd)
  | mks (esize bytes : Nat) (zero : List S) (len cap : Opd)
  | slc (arr : Option Nat) (esize : Nat) (x : Opd) (lo hi : Option Opd)
  | fa (x : Opd) (off : Nat)
  | fld (x : Opd) (off : Nat) (n : Option Nat)
  | ia (arr : Option Nat) (esize : Nat) (x i : Opd)
  | ix (len esize : Nat) (n : Option Nat) (x i : Opd)
  | ext (x : Opd) (j : Nat)
  | call (f : FuncId) (args : List Opd)
  | callv (f : Opd) (args : List Opd)
  | len (x : Opd)
  | app (esize bytes : Nat) (x y : Opd)
  | cpy (esize : Nat) (x y : Opd)
  | mx (isMax : Bool) (x y : Opd)

/-- An instruction: where its result goes; its guard (a temporary, what it must be). -/
structure GI where
  dst : Option Nat
  op : I
  g : Option (Nat × Bool)

inductive DC where
  | skip
  | reg (l : List GI)
  | drq (l : List GI)
  | drt (n : Nat) (l : List GI)
  | drm (l : List (Bool × GI))
  | seq (a b : DC)
  | cond (x : Opd) (a b : DC)
  | block (id : Nat) (c : DC)
  | loop (c : DC)
  | exit (id : Nat)
  | ret

/-! ### values -/
def ev (t : List V) : Opd → V
  | .t i => t.getD i (.tup [])
  | .k v => v

def putD (t : List V) (d : Option Nat) (v : V) : List V :=
  match d with
  | some d => t.set d v
  | none => t

def V.cells : V → List S
  | .s x => [x]
  | .agg xs => xs
  | .tup _ => []

/-- A value of which all is known, to be laid into cells. -/
def V.plain : V → Bool
  | .s .u => false
  | .s _ => true
  | .agg xs => known xs
  | .tup _ => false

def C.known : C → Bool
  | .s .u => false
  | .s _ => true
  | .agg xs => D.known xs

def V.known : V → Bool
  | .s .u => false
  | .s _ => true
  | .agg xs => D.known xs
  | .tup cs => cs.all C.known

def C.v : C → V
  | .s x => .s x
  | .agg xs => .agg xs

def sub (xs : List S) (o n : Nat) : List S := (xs.drop o).take n

/-- A fact that must hold, and what follows. -/
def ob (p K : Prop) : Prop := p ∧ K
theorem ob_intro {p K : Prop} (h : p) (k : K) : ob p K := ⟨h, k⟩

def bcase : Bool → (Bool → Prop) → Prop
  | true, f => f true
  | false, f => f false
theorem bcase_intro {b : Bool} {f : Bool → Prop} (h1 : b = true → f true) (h2 : b = false → f false) : bcase b f := by
  cases b
  · exact h2 rfl
  · exact h1 rfl

def eq1 : S → S → Bool
  | .i _ a, .i _ b => a == b
  | .b a, .b b => a == b
  | _, _ => false
/-- Both are numbers of one kind ('true'), or bools. -/
def cmp1 : Bool → S → S → Bool
  | true, .i j _, .i k _ => decide (j = k)
  | false, .b _, .b _ => true
  | _, _, _ => false
def eqS : List S → List S → Bool
  | [], [] => true
  | x :: xs, y :: ys => eq1 x y && eqS xs ys
  | _, _ => false
def cmpS : List Bool → List S → List S → Bool
  | [], [], [] => true
  | k :: ks, x :: xs, y :: ys => cmp1 k x y && cmpS ks xs ys
  | _, _, _ => false

def bin1 (op : BinOp) (x y : S) (K : S → Prop) : Prop :=
  match x, y with
  | .i k a, .i k' b =>
    match op with
    | .shl => ob (0 ≤ b) (K (.i k (k.wrap (a * 2 ^ min b.toNat k.bits))))
    | .shr => ob (0 ≤ b) (K (.i k (a / 2 ^ min b.toNat k.bits)))
    | .add => ob (k = k') (K (.i k (k.wrap (a + b))))
    | .sub => ob (k = k') (K (.i k (k.wrap (a - b))))
    | .mul => ob (k = k') (K (.i k (k.wrap (a * b))))
    | .quo => ob (k = k' ∧ b ≠ 0) (K (.i k (k.wrap (a.tdiv b))))
    | .rem => ob (k = k' ∧ b ≠ 0) (K (.i k (a.tmod b)))
    | .and => ob (k = k') (K (.i k (bits .and k a b)))
    | .or => ob (k = k') (K (.i k (bits .or k a b)))
    | .xor => ob (k = k') (K (.i k (bits .xor k a b)))
    | .andNot => ob (k = k') (K (.i k (bits .andNot k a b)))
    | .eql => ob (k = k') (K (.b (a == b)))
    | .neq => ob (k = k') (K (.b (a != b)))
    | .lss => ob (k = k') (K (.b (decide (a < b))))
    | .leq => ob (k = k') (K (.b (decide (a ≤ b))))
    | .gtr => ob (k = k') (K (.b (decide (a > b))))
    | .geq => ob (k = k') (K (.b (decide (a ≥ b))))
  | _, _ => False

def isNil (isSl : Bool) : S → Option Bool
  | .p _ _ => if isSl then none else some false
  | .np => if isSl then none else some true
  | .sl _ _ _ _ => if isSl then some false else none
  | .ns => if isSl then some true else none
  | _ => none

def un1 (op : UnOp) (x : S) (K : S → Prop) : Prop :=
  match op, x with
  | .not, .b a => K (.b (!a))
  | .neg, .i k a => K (.i k (k.wrap (0 - a)))
  | .xor, .i k a => K (.i k (bits .xor k (if k.signed then -1 else k.max) a))
  | _, _ => False

def fillP (t : List V) : List (Nat × Nat × Opd) → List S → Option (List S)
  | [], z => some z
  | (off, size, x) :: rest, z =>
    let v := ev t x
    if v.plain && v.cells.length == size && decide (off + size ≤ z.length) then fillP t rest (put z off v.cells) else none

def capsOf (t : List V) : List Opd → Option (List (R × Nat))
  | [] => some []
  | x :: xs => match ev t x, capsOf t xs with
    | .s (.p r o), some l => some ((r, o) :: l)
    | _, _ => none

/-! ### lending: the function's own blocks as shared ones of its callee -/
def R.lend (n : Nat) : R → R
  | .g k => .g k
  | .l k => .g (n + k)
def R.unlend (n : Nat) : R → R
  | .g k => if k < n then .g k else .l (k - n)
  | .l k => .l k
def S.ren (ρ : R → R) : S → S
  | .p r o => .p (ρ r) o
  | .sl r o a c => .sl (ρ r) o a c
  | .fn f cs => .fn f (cs.map fun x => (ρ x.1, x.2))
  | x => x
def C.ren (ρ : R → R) : C → C
  | .s x => .s (x.ren ρ)
  | .agg xs => .agg (xs.map (S.ren ρ))
def V.ren (ρ : R → R) : V → V
  | .s x => .s (x.ren ρ)
  | .agg xs => .agg (xs.map (S.ren ρ))
  | .tup cs => .tup (cs.map (C.ren ρ))
def Blk.ren (ρ : R → R) (B : Blk) : Blk := { B with cells := B.cells.map (S.ren ρ) }

/-- Nothing of the function's own is named. -/
def R.noL : R → Bool
  | .g _ => true
  | .l _ => false
def S.noL : S → Bool
  | .p r _ => r.noL
  | .sl r _ _ _ => r.noL
  | .fn _ cs => cs.all fun x => x.1.noL
  | _ => true
def C.noL : C → Bool
  | .s x => x.noL
  | .agg xs => xs.all S.noL
def V.noL : V → Bool
  | .s x => x.noL
  | .agg xs => xs.all S.noL
  | .tup cs => cs.all C.noL

/-- The blocks name nothing beyond the first n shared ones. -/
def clean (n : Nat) (h : List Blk) : Bool := h.all fun B => vals n 0 B.cells

abbrev FSpec := List V → List Blk → (V → List Blk → Prop) → Prop

def callK (Γ : FuncId → FSpec) (f : FuncId) (args : List V) (ls h : List Blk) (K : V → List Blk → List Blk → Prop) : Prop :=
  ob (args.all V.known = true)
  (bcase (args.all V.noL) fun q =>
    if q then Γ f args h fun v h' => K v ls h'
    else Γ f (args.map (V.ren (R.lend h.length))) (h ++ ls.map (Blk.ren (R.lend h.length))) fun v h' =>
      ob (h.length + ls.length ≤ h'.length ∧ clean h.length (h'.take h.length) = true)
        (K (v.ren (R.unlend h.length)) ((h'.drop h.length).map (Blk.ren (R.unlend h.length))) (h'.take h.length)))

/-! ### what names a block of the function's own -/
def R.names (k : Nat) : R → Bool
  | .g _ => false
  | .l j => decide (j = k)
def S.names (k : Nat) : S → Bool
  | .p r _ => r.names k
  | .sl r _ _ _ => r.names k
  | .fn _ cs => cs.any fun x => x.1.names k
  | _ => false
def C.names (k : Nat) : C → Bool
  | .s x => x.names k
  | .agg xs => xs.any (S.names k)
def V.names (k : Nat) : V → Bool
  | .s x => x.names k
  | .agg xs => xs.any (S.names k)
  | .tup cs => cs.any (C.names k)
/-- A temporary that names it is known no more. -/
def V.kill (k : Nat) (v : V) : V := if v.names k then .s .u else v
def unnamed (k : Nat) (ls : List Blk) : Bool := ls.all fun B => B.cells.all fun s => !s.names k

/-- The cells that a slice shows. -/
def shows (ls h : List Blk) (esize : Nat) : S → Option (Nat × List S)
  | .sl r o n _ => match blk h ls r with
    | some B => if B.st = .dead ∨ B.cells.length < o + n * esize then (if n = 0 then some (0, []) else none) else some (n, sub B.cells o (n * esize))
    | none => none
  | .ns => some (0, [])
  | .es _ _ => some (0, [])
  | _ => none

def zeros (z : List S) : Nat → List S
  | 0 => []
  | n + 1 => z ++ zeros z n

def bnd (d : Int) (t : List V) : Option Opd → Option Int
  | none => some d
  | some x => match ev t x with
    | .s (.i _ n) => some n
    | _ => none

/-- One instruction. -/
def iwp (Γ : FuncId → FSpec) (op : I) (t : List V) (ls h : List Blk) (K : List V → V → List Blk → List Blk → Prop) : Prop :=
  match op with
  | .mv x => K t (ev t x) ls h
  | .pick c a b => match ev t c with
    | .s (.b q) => bcase q fun q => K t (ev t (if q then a else b)) ls h
    | _ => False
  | .new z => K t (.s (.p (.l ls.length) 0)) (ls ++ [⟨.rw, z, z.length⟩]) h
  | .box x => let v := ev t x
    ob (v.plain = true) (K t (.s (.p (.l ls.length) 0)) (ls ++ [⟨.rw, v.cells, v.cells.length⟩]) h)
  | .build z parts => match fillP t parts z with
    | some z' => K t (.agg z') ls h
    | none => False
  | .bsl n z parts => match fillP t parts z with
    | some z' => K t (.s (.sl (.l ls.length) 0 n n)) (ls ++ [⟨.rw, z', z'.length⟩]) h
    | none => False
  | .ld a n => match ev t a with
    | .s (.p r o) => match blk h ls r with
      | some B => match n with
        | none => match B.cells[o]? with
          | some s => ob (B.st ≠ .dead ∧ V.known (.s s) = true) (K t (.s s) ls h)
          | none => False
        | some n => ob (B.st ≠ .dead ∧ o + n ≤ B.cells.length ∧ known (sub B.cells o n) = true) (K t (.agg (sub B.cells o n)) ls h)
      | none => False
    | _ => False
  | .st a x n => match ev t a with
    | .s (.p r o) => match blk h ls r with
      | some B => let v := ev t x
        ob (B.st = .rw ∧ v.plain = true ∧ v.cells.length = n ∧ o + n ≤ B.cells.length ∧ v.cells.all (r.takes h.length ls.length) = true)
          (K t (.tup []) (setL ls r { B with cells := put B.cells o v.cells }) (setH h r { B with cells := put B.cells o v.cells }))
      | none => False
    | _ => False
  | .nil x => match ev t x with
    | .s (.p r o) => K t (.s (.p r o)) ls h
    | .s (.fn f cs) => K t (.s (.fn f cs)) ls h
    | _ => False
  | .bin op x y => match ev t x, ev t y with
    | .s a, .s b => bin1 op a b fun s => K t (.s s) ls h
    | _, _ => False
  | .eqb neg x y => match ev t x, ev t y with
    | .s (.b a), .s (.b b) => K t (.s (.b (if neg then !(a == b) else a == b))) ls h
    | _, _ => False
  | .eqa neg ks x y => match ev t x, ev t y with
    | .agg xs, .agg ys => ob (cmpS ks xs ys = true) (K t (.s (.b (if neg then !eqS xs ys else eqS xs ys))) ls h)
    | _, _ => False
  | .eqn isSl neg x => match ev t x with
    | .s a => match isNil isSl a with
      | some q => K t (.s (.b (if neg then !q else q))) ls h
      | none => False
    | _ => False
  | .un op x => match ev t x with
    | .s a => un1 op a fun s => K t (.s s) ls h
    | _ => False
  | .conv k x => match ev t x with
    | .s (.i _ n) => K t (.s (.i k (k.wrap n))) ls h
    | _ => False
  | .mkf f caps => match capsOf t caps with
    | some cs => K t (.s (.fn f cs)) ls h
    | none => False
  | .mks esize bytes z x y => match ev t x, ev t y with
    | .s (.i _ n), .s (.i _ c) => ob (0 ≤ n ∧ n ≤ c ∧ c ≤ 2 ^ 40 ∧ bytes * c ≤ 2 ^ 48 ∧ z.length = esize)
        (K t (.s (.sl (.l ls.length) 0 n.toNat c.toNat)) (ls ++ [⟨.rw, zeros z c.toNat, (zeros z c.toNat).length⟩]) h)
    | _, _ => False
  | .slc arr esize x lo hi =>
    let go (r : R) (o len cap : Nat) : Prop :=
      match bnd 0 t lo, bnd len t hi with
      | some l, some u => ob (0 ≤ l ∧ l ≤ u ∧ u ≤ cap)
          (K t (.s (.sl r (if cap = l.toNat then o else o + l.toNat * esize) (u.toNat - l.toNat) (cap - l.toNat))) ls h)
      | _, _ => False
    match arr, ev t x with
    | some n, .s (.p r o) => go r o n n
    | none, .s (.sl r o n c) => go r o n c
    | none, .s .ns => match bnd 0 t lo, bnd 0 t hi with
      | some l, some u => ob (l = 0 ∧ u = 0) (K t (.s .ns) ls h)
      | _, _ => False
    | _, _ => False
  | .fa x off => match ev t x with
    | .s (.p r o) => K t (.s (.p r (o + off))) ls h
    | _ => False
  | .fld x off n => match ev t x with
    | .agg xs => match n with
      | none => match xs[off]? with
        | some s => K t (.s s) ls h
        | none => False
      | some n => ob (off + n ≤ xs.length) (K t (.agg (sub xs off n)) ls h)
    | _ => False
  | .ia arr esize x i => match ev t i with
    | .s (.i _ i) => match arr, ev t x with
      | some n, .s (.p r o) => ob (0 ≤ i ∧ i < n) (K t (.s (.p r (o + i.toNat * esize))) ls h)
      | none, .s (.sl r o n _) => ob (0 ≤ i ∧ i < n) (K t (.s (.p r (o + i.toNat * esize))) ls h)
      | _, _ => False
    | _ => False
  | .ix len esize n x i => match ev t x, ev t i with
    | .agg xs, .s (.i _ i) => ob (0 ≤ i ∧ i < len)
      (match n with
      | none => match xs[i.toNat * esize]? with
        | some s => K t (.s s) ls h
        | none => False
      | some n => ob (i.toNat * esize + n ≤ xs.length) (K t (.agg (sub xs (i.toNat * esize) n)) ls h))
    | _, _ => False
  | .ext x j => match ev t x with
    | .tup cs => match cs[j]? with
      | some c => K t c.v ls h
      | none => False
    | _ => False
  | .call f args => callK Γ f (args.map (ev t)) ls h fun v ls' h' => K t v ls' h'
  | .callv f args => match ev t f with
    | .s (.fn g cs) => callK Γ g (args.map (ev t) ++ cs.map fun x => .s (.p x.1 x.2)) ls h fun v ls' h' => K t v ls' h'
    | _ => False
  | .len x => match ev t x with
    | .s (.sl _ _ n _) => K t (.s (.i .i64 n)) ls h
    | .s .ns => K t (.s (.i .i64 0)) ls h
    | .s (.es _ _) => K t (.s (.i .i64 0)) ls h
    | _ => False
  | .app esize bytes x y => match ev t x, ev t y with
    | .s b, .s y => match shows ls h esize y with
      | some (n, new) => ob (known new = true ∧ 0 < esize) (match b with
        | .ns => ob (n * bytes ≤ 2 ^ 47 ∧ 0 < n ∧ vals h.length ls.length new = true) (∀ c, n ≤ c → K t (.s (.sl (.l ls.length) 0 n c)) (ls ++ [⟨.rw, new, c * esize⟩]) h)
        | .sl (.l k) 0 len cap => match ls[k]? with
          | some B => ob (B.st = .rw ∧ B.cells.length = len * esize ∧ cap * esize ≤ B.room ∧ (len + n) * bytes ≤ 2 ^ 47 ∧ known B.cells = true ∧ unnamed k ls = true ∧
                new.all (fun s => !s.names k) = true ∧ vals h.length ls.length new = true)
              (∀ c, len + n ≤ c → K (t.map (V.kill k)) (.s (.sl (.l k) 0 (len + n) c)) (ls.set k ⟨.rw, B.cells ++ new, c * esize⟩) h)
          | none => False
        | _ => False)
      | none => False
    | _, _ => False
  | .cpy esize x y => match ev t x, ev t y with
    | .s x, .s y => match shows ls h esize y with
      | some (n, src) => match x with
        | .sl r o len _ => match blk h ls r with
          | some B => ob (B.st = .rw ∧ o + len * esize ≤ B.cells.length ∧ known src = true ∧ (sub src 0 (min n len * esize)).all (r.takes h.length ls.length) = true)
              (K t (.s (.i .i64 (min n len : Nat))) (setL ls r { B with cells := put B.cells o (sub src 0 (min n len * esize)) })
                (setH h r { B with cells := put B.cells o (sub src 0 (min n len * esize)) }))
          | none => False
        | .ns => ob (known src = true) (K t (.s (.i .i64 0)) ls h)
        | _ => False
      | none => False
    | _, _ => False
  | .mx isMax x y => match ev t x, ev t y with
    | .s (.i k a), .s (.i _ b) => K t (.s (.i k (if isMax then (if b > a then b else a) else (if b < a then b else a)))) ls h
    | _, _ => False

/-- An instruction with its guard. -/
def gwp (Γ : FuncId → FSpec) (x : GI) (t : List V) (ls h : List Blk) (K : List V → List Blk → List Blk → Prop) : Prop :=
  match x.g with
  | none => iwp Γ x.op t ls h fun t v ls h => K (putD t x.dst v) ls h
  | some (j, want) => match t.getD j (.tup []) with
    | .s (.b q) => bcase q fun q =>
      if (q == want) = true then iwp Γ x.op (t.set j (.s (.b q))) ls h fun t v ls h => K (putD t x.dst v) ls h
      else K (putD (t.set j (.s (.b q))) x.dst (.tup [])) ls h
    | .tup [] => K (putD t x.dst (.tup [])) ls h
    | _ => False

def rwp (Γ : FuncId → FSpec) : List GI → List V → List Blk → List Blk → (List V → List Blk → List Blk → Prop) → Prop
  | [], t, ls, h, K => K t ls h
  | x :: rest, t, ls, h, K => gwp Γ x t ls h fun t ls h => rwp Γ rest t ls h K

/-- An instruction in a region whose order is drawn: a call there must leave the blocks as they are. -/
def qwp (Γ : FuncId → FSpec) (op : I) (t : List V) (ls h : List Blk) (K : V → Prop) : Prop :=
  match op with
  | .call f args => ob ((args.map (ev t)).all V.known = true ∧ (args.map (ev t)).all V.noL = true) (∃ v : V, v.val 0 0 = true ∧ Γ f (args.map (ev t)) h (fun v' h' => v' = v ∧ h' = h) ∧ K v)
  | .callv f args => match ev t f with
    | .s (.fn g cs) => ob ((args.map (ev t) ++ cs.map fun x => V.s (.p x.1 x.2)).all V.known = true ∧ (args.map (ev t) ++ cs.map fun x => V.s (.p x.1 x.2)).all V.noL = true)
        (∃ v : V, v.val 0 0 = true ∧ Γ g (args.map (ev t) ++ cs.map fun x => V.s (.p x.1 x.2)) h (fun v' h' => v' = v ∧ h' = h) ∧ K v)
    | _ => False
  | op => iwp Γ op t ls h fun _ v _ _ => K v

def gqwp (Γ : FuncId → FSpec) (x : GI) (t : List V) (ls h : List Blk) (K : List V → Prop) : Prop :=
  match x.g with
  | none => qwp Γ x.op t ls h fun v => K (putD t x.dst v)
  | some (j, want) => match t.getD j (.tup []) with
    | .s (.b q) => bcase q fun q =>
      if (q == want) = true then qwp Γ x.op (t.set j (.s (.b q))) ls h fun v => K (putD (t.set j (.s (.b q))) x.dst v)
      else K (putD (t.set j (.s (.b q))) x.dst (.tup []))
    | .tup [] => K (putD t x.dst (.tup []))
    | _ => False

def rqwp (Γ : FuncId → FSpec) : List GI → List V → List Blk → List Blk → (List V → Prop) → Prop
  | [], t, _, _, K => K t
  | x :: rest, t, ls, h, K => gqwp Γ x t ls h fun t => rqwp Γ rest t ls h K

/-- Instructions of both kinds: the marked ones leave the blocks as they are. -/
def mwp (Γ : FuncId → FSpec) : List (Bool × GI) → List V → List Blk → List Blk → (List V → List Blk → List Blk → Prop) → Prop
  | [], t, ls, h, K => K t ls h
  | (true, x) :: rest, t, ls, h, K => gqwp Γ x t ls h fun t => mwp Γ rest t ls h K
  | (false, x) :: rest, t, ls, h, K => gwp Γ x t ls h fun t ls h => mwp Γ rest t ls h K

structure St where
  t : List V
  ls : List Blk
  h : List Blk

inductive Ex where
  | nrm
  | ext (id : Nat)
  | ret

/-- The second state tells no more than the first one: ρ tells, of each block of the second one, which block of the first one it is. -/
structure WkBy (n0 : Nat) (ρ : R → R) (s s' : St) : Prop where
  len : n0 ≤ s'.h.length
  old : ∀ k, k < n0 → ρ (.g k) = .g k
  new : ∀ k, n0 ≤ k → k < s'.h.length → (∃ j, n0 ≤ j ∧ ρ (.g k) = .g j) ∨ ∃ j B, ρ (.g k) = .l j ∧ s.ls[j]? = some B ∧ B.st = .rw
  inj : ∀ r r', r.val s'.h.length s'.ls.length = true → r'.val s'.h.length s'.ls.length = true → ρ r = ρ r' → r = r'
  blks : ∀ r B', blk s'.h s'.ls r = some B' → blk s.h s.ls (ρ r) = some (B'.ren ρ)
  gval : ∀ B, B ∈ s'.h → vals s'.h.length 0 B.cells = true
  lval : ∀ B, B ∈ s'.ls → vals s'.h.length s'.ls.length B.cells = true
  size : s'.t.length = s.t.length
  temps : ∀ (i : Nat) (v' : V), s'.t[i]? = some v' → v'.val s'.h.length s'.ls.length = true ∧ (v' = .s .u ∨ s.t[i]? = some (v'.ren ρ))

/-- Of the function's own blocks, none from the m-th on is named. -/
def R.below (m : Nat) : R → Bool
  | .g _ => true
  | .l k => decide (k < m)
def S.below (m : Nat) : S → Bool
  | .p r _ => r.below m
  | .sl r _ _ _ => r.below m
  | .fn _ cs => cs.all fun x => x.1.below m
  | _ => true
def C.below (m : Nat) : C → Bool
  | .s x => x.below m
  | .agg xs => xs.all (S.below m)
def V.below (m : Nat) : V → Bool
  | .s x => x.below m
  | .agg xs => xs.all (S.below m)
  | .tup cs => cs.all (C.below m)

/-- Each temporary of the first list is as in the second one, or not known. -/
def leT : List V → List V → Prop
  | [], [] => True
  | v' :: t', v :: t => (v' = .s .u ∨ v' = v) ∧ leT t' t
  | _, _ => False

inductive Wk (n0 : Nat) : St → St → Prop where
  | refl {s : St} : Wk n0 s s
  | by_ (ρ : R → R) {s s' : St} (h : WkBy n0 ρ s s') : Wk n0 s s'
  | cut {t t' : List V} {ls h : List Blk} (junk : List Blk) (ht : leT t' t) (hb : t'.all (V.below ls.length) = true) (hl : ls.all (fun B => B.cells.all (S.below ls.length)) = true) : Wk n0 ⟨t, ls ++ junk, h⟩ ⟨t', ls, h⟩
  | less {t t' : List V} {ls h : List Blk} (ht : leT t' t) : Wk n0 ⟨t, ls, h⟩ ⟨t', ls, h⟩
  | trans {s s1 s2 : St} (h : Wk n0 s s1) (h' : Wk n0 s1 s2) : Wk n0 s s2

/-- Code. -/
def dwp (Γ : FuncId → FSpec) (n0 : Nat) : DC → St → (Ex → St → Prop) → Prop
  | .skip, s, K => K .nrm s
  | .reg l, s, K => rwp Γ l s.t s.ls s.h fun t ls h => K .nrm ⟨t, ls, h⟩
  | .drq l, s, K => rqwp Γ l s.t s.ls s.h fun t => K .nrm ⟨t, s.ls, s.h⟩
  | .drt _ l, s, K => rwp Γ l s.t s.ls s.h fun t ls h => K .nrm ⟨t, ls, h⟩
  | .drm l, s, K => mwp Γ l s.t s.ls s.h fun t ls h => K .nrm ⟨t, ls, h⟩
  | .seq a b, s, K => dwp Γ n0 a s fun e s => match e with
    | .nrm => ∃ s', Wk n0 s s' ∧ dwp Γ n0 b s' K
    | e => K e s
  | .cond x a b, s, K => match ev s.t x with
    | .s (.b q) => bcase q fun q => ∃ s', Wk n0 s s' ∧ if q = true then dwp Γ n0 a s' K else dwp Γ n0 b s' K
    | _ => False
  | .block id c, s, K => dwp Γ n0 c s fun e s => match e with
    | .ext j => if j = id then K .nrm s else K (.ext j) s
    | e => K e s
  | .loop c, s, K => ∀ X : St → Prop, (∀ s, (∃ s', Wk n0 s s' ∧ dwp Γ n0 c s' fun e s => match e with
    | .nrm => X s
    | e => K e s) → X s) → X s
  | .exit id, s, K => K (.ext id) s
  | .ret, s, K => K .ret s

inductive RV where
  | t (i : Nat)
  | c (a : Nat) (n : Option Nat)

/-- A result, as the function leaves it. -/
def rval (s : St) : RV → Option C
  | .t i => match s.t.getD i (.tup []) with
    | .s x => some (.s x)
    | .agg xs => some (.agg xs)
    | .tup _ => none
  | .c a n => match s.t.getD a (.tup []) with
    | .s (.p r o) => match blk s.h s.ls r with
      | some B => if B.st = .dead then none else match n with
        | none => (B.cells[o]?).map C.s
        | some n => if o + n ≤ B.cells.length then some (.agg (sub B.cells o n)) else none
      | none => none
    | _ => none

def rvals (s : St) : List RV → Option (List C)
  | [] => some []
  | r :: rs => match rval s r, rvals s rs with
    | some c, some l => some (c :: l)
    | _, _ => none

/-- One result by itself, several as a tuple. -/
def result : List C → V
  | [c] => c.v
  | l => .tup l

/-- The function's own blocks that outlive it become shared ones. -/
def R.prom (n : Nat) (keep : List Nat) : R → R
  | .g k => .g k
  | .l k => .g (n + keep.idxOf k)
def R.kept (keep : List Nat) : R → Bool
  | .g _ => true
  | .l k => keep.contains k
def S.kept (keep : List Nat) : S → Bool
  | .p r _ => r.kept keep
  | .sl r _ _ _ => r.kept keep
  | .fn _ cs => cs.all fun x => x.1.kept keep
  | _ => true
def C.kept (keep : List Nat) : C → Bool
  | .s x => x.kept keep
  | .agg xs => xs.all (S.kept keep)
def V.kept (keep : List Nat) : V → Bool
  | .s x => x.kept keep
  | .agg xs => xs.all (S.kept keep)
  | .tup cs => cs.all (C.kept keep)

def getAll (ls : List Blk) : List Nat → Option (List Blk)
  | [] => some []
  | k :: ks => match ls[k]?, getAll ls ks with
    | some B, some l => some (B :: l)
    | _, _ => none

def leave (v : V) (ls h : List Blk) (K : V → List Blk → Prop) : Prop :=
  ob (v.known = true)
  (bcase v.noL fun q =>
    if q then K v h
    else ∃ keep : List Nat, keep.Nodup ∧ v.kept keep = true ∧ match getAll ls keep with
      | some l => ob (l.all (fun B => decide (B.st = .rw) && B.cells.all (S.kept keep)) = true) (K (v.ren (R.prom h.length keep)) (h ++ l.map (Blk.ren (R.prom h.length keep))))
      | none => False)

structure DF where
  ntmps : Nat
  body : DC
  res : List RV

/-- What a function leaves at its end. -/
def fin (n0 : Nat) (rs : List RV) (K : V → List Blk → Prop) (e : Ex) (s : St) : Prop :=
  match e with
  | .ext _ => False
  | _ => match rvals s rs with
    | some l => ∃ v ls h, Wk n0 ⟨[result l], s.ls, s.h⟩ ⟨[v], ls, h⟩ ∧ leave v ls h K
    | none => False

/-- A function: its arguments in its first temporaries. -/
def fwp (Γ : FuncId → FSpec) (F : DF) : FSpec := fun args h K =>
  ∃ Kf : Ex → St → Prop, (∀ e s, Kf e s → fin h.length F.res K e s) ∧
    ∃ s, Wk h.length ⟨args ++ List.replicate (F.ntmps - args.length) (.tup []), [], h⟩ s ∧ dwp Γ h.length F.body s Kf

end Go.D

/- Regions whose order is drawn: what may be taken first, over contexts that grow. -/
namespace Go.D
set_option linter.all false

section
variable {P : Program} {ops : Array Oper} {md : Region.Mode} {Q : Exit → Act → World → Prop} {C : Type}

/-- From a context on an operation yields its value, and leaves a world of the context. -/
def UpIn (P : Program) (ops : Array Oper) (Ok : C → World → Prop) (le : C → C → Prop) (o : Oper) (v : Value) (a : Act) (c : C) : Prop := ∀ c', le c c' → YieldsIn P ops (Ok c') o v a

/-- What a listed operation waits for is listed. -/
def Closed (md : Region.Mode) (ops : Array Oper) (listed : Array Bool) : Prop :=
  listed.size = ops.size ∧ ∀ j oj, ops[j]? = some oj → listed.getD j false = true → ∀ e ∈ oj.after, Region.binds md e = true → listed.getD e.on false = true

theorem Closed.set {i : Nat} {listed : Array Bool} (inv : Closed md ops listed) (hi : i ∈ Region.ready md ops listed) : Closed md ops (listed.setIfInBounds i true) := by
  obtain ⟨_, oi, hoi, hall⟩ := mem_ready.1 hi
  refine ⟨by simp [inv.1], fun j oj hj hl e he hb => ?_⟩
  by_cases hij : i = j
  · subst hij
    have : oj = oi := Option.some.inj (hj.symm.trans hoi)
    subst this
    exact getD_set_true (hall e he hb)
  · rw [getD_set_ne false hij] at hl
    exact getD_set_true (inv.2 j oj hj hl e he hb)

/-- Those that wait for the i-th one, directly or not: marks, one an operation. -/
def waitsOn (md : Region.Mode) (ops : Array Oper) (i : Nat) : Nat → List Bool
  | 0 => []
  | k + 1 => let l := waitsOn md ops i k
    l ++ [k == i || match ops[k]? with
      | some o => o.after.any fun e => Region.binds md e && l.getD e.on false
      | none => false]

theorem waitsOn_length {i : Nat} : ∀ k : Nat, (waitsOn md ops i k).length = k
  | 0 => rfl
  | k + 1 => by simp [waitsOn, waitsOn_length k]

theorem waitsOn_spec {i : Nat} {listed : Array Bool} (inv : Closed md ops listed) : ∀ k j : Nat, (waitsOn md ops i k).getD j false = true → listed.getD j false = true → listed.getD i false = true
  | 0, j, h, _ => by simp [waitsOn] at h
  | k + 1, j, h, hl => by
    simp only [waitsOn, List.getD_eq_getElem?_getD] at h
    rcases Nat.lt_or_ge j k with hj | hj
    · rw [List.getElem?_append_left (by rw [waitsOn_length]; exact hj)] at h
      exact waitsOn_spec inv k j (by rw [List.getD_eq_getElem?_getD]; exact h) hl
    · rcases Nat.lt_or_ge j (k + 1) with hj2 | hj2
      · have : j = k := by omega
        subst this
        rw [List.getElem?_append_right (by rw [waitsOn_length]; omega), waitsOn_length, Nat.sub_self] at h
        simp only [List.getElem?_cons_zero, Option.getD_some, Bool.or_eq_true, beq_iff_eq] at h
        rcases h with h | h
        · subst h; exact hl
        · split at h
          · rename_i o ho
            obtain ⟨e, he, hb⟩ := Array.any_eq_true'.1 h
            simp only [Bool.and_eq_true] at hb
            exact waitsOn_spec inv j e.on hb.2 (inv.2 j o ho hl e he hb.1)
          · cases h
      · rw [List.getElem?_eq_none (by simp [waitsOn_length]; omega)] at h
        cases h

/-- All from the n-th one on wait for all before. -/
def barB (md : Region.Mode) (ops : Array Oper) (n : Nat) : Bool :=
  (List.range n).all fun i => let l := waitsOn md ops i ops.size
    (List.range ops.size).all fun t => decide (t < n) || l.getD t false

theorem waitsOn_ready {i t : Nat} {listed : Array Bool} (inv : Closed md ops listed) (ht : t ∈ Region.ready md ops listed) (hne : t ≠ i) : ∀ k, (waitsOn md ops i k).getD t false = true → listed.getD i false = true
  | 0, h => by simp [waitsOn] at h
  | k + 1, h => by
    simp only [waitsOn, List.getD_eq_getElem?_getD] at h
    rcases Nat.lt_or_ge t k with hj | hj
    · rw [List.getElem?_append_left (by rw [waitsOn_length]; exact hj)] at h
      exact waitsOn_ready inv ht hne k (by rw [List.getD_eq_getElem?_getD]; exact h)
    · rcases Nat.lt_or_ge t (k + 1) with hj2 | hj2
      · have : t = k := by omega
        subst this
        rw [List.getElem?_append_right (by rw [waitsOn_length]; omega), waitsOn_length, Nat.sub_self] at h
        simp only [List.getElem?_cons_zero, Option.getD_some, Bool.or_eq_true, beq_iff_eq, hne, false_or] at h
        split at h
        · rename_i o ho
          obtain ⟨e, he, hb⟩ := Array.any_eq_true'.1 h
          simp only [Bool.and_eq_true] at hb
          obtain ⟨_, o', ho', hall⟩ := mem_ready.1 ht
          have : o = o' := Option.some.inj (ho.symm.trans ho')
          subst this
          exact waitsOn_spec inv _ e.on hb.2 (hall e he hb.1)
        · cases h
      · rw [List.getElem?_eq_none (by simp [waitsOn_length]; omega)] at h
        cases h

theorem barB_ready {n t i : Nat} {listed : Array Bool} (h : barB md ops n = true) (inv : Closed md ops listed) (ht : t ∈ Region.ready md ops listed) (hn : n ≤ t) (hi : i < n) : listed.getD i false = true := by
  simp only [barB, List.all_eq_true, List.mem_range] at h
  have hlt : t < ops.size := by
    obtain ⟨_, o, ho, _⟩ := mem_ready.1 ht
    exact (Array.getElem?_eq_some_iff.1 ho).1
  have := h i hi t hlt
  simp only [Bool.or_eq_true, decide_eq_true_eq] at this
  rcases this with h1 | h1
  · omega
  · exact waitsOn_ready inv ht (by omega) _ h1

/-- Whatever order is picked, till those before the n-th one are done. -/
def wpK (P : Program) (md : Region.Mode) (ops : Array Oper) (Q : Exit → Act → World → Prop) (Ok : C → World → Prop) (le : C → C → Prop) (n : Nat) (L : Array Bool → Act → C → Prop) : Nat → Array Bool → Act → C → Prop
  | 0, listed, a, c => L listed a c
  | f + 1, listed, a, c => ∀ w, Ok c w → Region.ready md ops listed ≠ [] ∧ ∀ i ∈ Region.ready md ops listed, i < n ∧
      wpOp P ops Q i (fun a' w' => ∃ c', le c c' ∧ Ok c' w' ∧ wpK P md ops Q Ok le n L f (listed.setIfInBounds i true) a' c') a w

variable {Ok : C → World → Prop} {le : C → C → Prop}

theorem wpAny_of_wpK {n g : Nat} {L : Array Bool → Act → C → Prop} (hL : ∀ listed a c w, L listed a c → Ok c w → wpAny P md ops Q g listed a w) :
    ∀ (f : Nat) (listed : Array Bool) (a : Act) (c : C) (w : World), Ok c w → wpK P md ops Q Ok le n L f listed a c → wpAny P md ops Q (f + g) listed a w
  | 0, listed, a, c, w, hw, h => by rw [Nat.zero_add]; exact hL _ _ _ _ h hw
  | f + 1, listed, a, c, w, hw, h => by
    rw [show f + 1 + g = (f + g) + 1 by omega]
    obtain ⟨h1, h2⟩ := h w hw
    exact ⟨fun h0 => absurd h0 h1, fun i hi => wpOp_mono (fun a' w' ⟨c', _, h4, h5⟩ => wpAny_of_wpK hL f _ a' c' w' h4 h5) (h2 i hi).2⟩

/-- One operation, apart from another one: a fact of the latter stays. -/
theorem wpOp_putP {j : Nat} {oi oj : Oper} {v : Value} {Y : Act → Prop} (hj : ops[j]? = some oj) (hap : oi.apart ops oj = true) (hsj : ∀ cs b, oj.op ≠ .select cs b)
    (keep : ∀ a, Y a → ∀ u, Y (a.put oj.dst u)) (keepD : ∀ a d, Y a → Y { a with defers := d :: a.defers })
    (hQ : ∀ c a w, Q (.panic c) (a.put oi.dst v) w → Q (.panic c) a w) {K : Act → World → Prop} {a : Act} {w : World}
    (hy : Y a) (h : wpOp P ops Q j K (a.put oi.dst v) w) :
    wpOp P ops Q j (fun a' w' => Y a' ∧ K (a'.put oi.dst v) w') a w := by
  obtain ⟨h1, h2, h3⟩ := Oper.apart_spec hap
  unfold wpOp at *
  simp only [hj] at *
  rw [wanted_put oj a oi.dst v h1] at h
  split
  · rename_i hw
    simp only [hw, if_true] at h
    rcases h with h | ⟨hasks, hlets⟩
    case inr => exact .inr ⟨by unfold Oper.asks at *; rw [execOp_put oj hsj a oi.dst v h1] at hasks; exact hasks, hlets⟩
    refine .inl ?_
    unfold Oper.wp at *
    rw [execOp_put oj hsj a oi.dst v h1] at h
    generalize (execOp a.eval oj).run P w = r at *
    cases r with
    | ok n w' =>
      cases n <;> simp only [Oper.upon] at h ⊢
      case value u => exact ⟨keep a hy u, by rw [← Act.put_comm a v u h2]; exact h⟩
      case skip => exact ⟨keep a hy _, by rw [← Act.put_comm a v undef h2]; exact h⟩
      case defer d =>
        refine ⟨keep _ (keepD a d hy) _, ?_⟩
        rw [← Act.put_comm _ v undef h2, ← Act.put_defers]
        exact h
      case enter f args =>
        refine Calls.mono h fun e w'' he => ?_
        cases e with
        | returned u => exact ⟨keep a hy u, by rw [← Act.put_comm a v u h2]; exact he⟩
        | panicked c => exact hQ _ _ _ he
        | outgrown => exact he
      case row row args => exact Rows.mono h fun u w'' he => ⟨keep a hy u, by rw [← Act.put_comm a v u h2]; exact he⟩
    | halt x w' =>
      cases x <;> simp only [Oper.upon] at h ⊢
      case panic u => exact hQ _ _ _ h
  · rename_i hw
    simp only [hw] at h
    exact ⟨keep a hy _, by rw [← Act.put_comm a v undef h2]; exact h⟩

/-- An operation that yields its value from a context on may be taken first. -/
theorem wpK_first {n i : Nat} {oi : Oper} {v : Value} {L : Array Bool → Act → C → Prop} (hrefl : ∀ c, le c c) (htrans : ∀ {c1 c2 c3 : C}, le c1 c2 → le c2 c3 → le c1 c3)
    (hi : ops[i]? = some oi) (hsel : ∀ (j : Nat) (o : Oper) cs b, ops[j]? = some o → o.op ≠ .select cs b) (hbar : barB md ops n = true) (hin : i < n)
    (hdone : ∀ listed a c, L listed a c → ∀ j ∈ Region.ready md ops listed, n ≤ j) (hQ : ∀ c a w, Q (.panic c) (a.put oi.dst v) w → Q (.panic c) a w) :
    ∀ (f : Nat) (listed : Array Bool) (a : Act) (c : C), Closed md ops listed →
      (∀ j oj, ops[j]? = some oj → j ≠ i → listed.getD j true = false → (∀ e ∈ oj.after, Region.binds md e = true → e.on ≠ i) → oi.apart ops oj = true) →
      i ∈ Region.ready md ops listed → UpIn P ops Ok le oi v a c →
      wpK P md ops Q Ok le n L f (listed.setIfInBounds i true) (a.put oi.dst v) c → wpK P md ops Q Ok le n L (f + 1) listed a c := by
  intro f
  have hlt : ∀ (listed : Array Bool), Closed md ops listed → i ∈ Region.ready md ops listed → ∀ j ∈ Region.ready md ops listed, j < n := fun listed inv hr j hj => by
    rcases Nat.lt_or_ge j n with h | h
    · exact h
    · have h1 := barB_ready hbar inv hj h hin
      have h2 := getD_both (mem_ready.1 hr).1
      rw [h2] at h1; cases h1
  have hme : ∀ (f : Nat) (listed : Array Bool) (a : Act) (c : C) (w : World), Ok c w → UpIn P ops Ok le oi v a c → wpK P md ops Q Ok le n L f (listed.setIfInBounds i true) (a.put oi.dst v) c →
      wpOp P ops Q i (fun a' w' => ∃ c', le c c' ∧ Ok c' w' ∧ wpK P md ops Q Ok le n L f (listed.setIfInBounds i true) a' c') a w := fun f listed a c w hw hy H =>
    wpOp_of_qOp (K := fun a' => a' = a.put oi.dst v) hw (fun a' w' hok e => by subst e; exact ⟨c, hrefl c, hok, H⟩) ((hy c (hrefl c)).qOp hi rfl)
  induction f with
  | zero =>
    intro listed a c inv _ hr hy H w hw
    refine ⟨fun h => (by rw [h] at hr; cases hr), fun j hj => ⟨hlt listed inv hr j hj, ?_⟩⟩
    by_cases hji : j = i
    · subst hji; exact hme 0 listed a c w hw hy H
    · have := hdone _ _ _ H j (ready_mono hj hji)
      have := hlt listed inv hr j hj
      omega
  | succ f ih =>
    intro listed a c inv hfree hr hy H w hw
    refine ⟨fun h => (by rw [h] at hr; cases hr), fun j hj => ⟨hlt listed inv hr j hj, ?_⟩⟩
    by_cases hji : j = i
    · subst hji; exact hme (f + 1) listed a c w hw hy H
    · have h1 := ((H w hw).2 j (ready_mono hj hji)).2
      obtain ⟨hjun, oj, hoj, hall⟩ := mem_ready.1 hj
      have hnot : ∀ e ∈ oj.after, Region.binds md e = true → e.on ≠ i := fun e he hb heq => by
        have h1 := hall e he hb
        rw [heq, getD_both (mem_ready.1 hr).1] at h1
        cases h1
      have hap := hfree j oj hoj hji hjun hnot
      obtain ⟨_, _, h3⟩ := Oper.apart_spec hap
      have h2 := wpOp_putP (Y := fun a => UpIn P ops Ok le oi v a c) hoj hap (fun cs b => hsel j oj cs b hoj)
        (fun a hy u c' hc => (hy c' hc).of_same (execOp_put oi (fun cs b => hsel i oi cs b hi) a oj.dst u h3) (wanted_put oi a oj.dst u h3)) (fun a d hy c' hc => (hy c' hc).of_same rfl rfl) hQ hy h1
      have hfree' : ∀ k ok, ops[k]? = some ok → k ≠ i → (listed.setIfInBounds j true).getD k true = false →
          (∀ e ∈ ok.after, Region.binds md e = true → e.on ≠ i) → oi.apart ops ok = true := fun k ok hk hki hun hno => by
        refine hfree k ok hk hki ?_ hno
        by_cases hjk : j = k
        · subst hjk; exact hjun
        · rw [getD_set_ne true hjk] at hun; exact hun
      refine wpOp_mono (fun a' w' ⟨hy', c', i1, i2, i3⟩ => ⟨c', i1, i2, ih (listed.setIfInBounds j true) a' c' (inv.set hj) hfree' (ready_mono hr (Ne.symm hji)) (fun c2 hc2 => hy' c2 (htrans i1 hc2)) ?_⟩) h2
      rw [Array.setIfInBounds_comm _ _ hji]
      exact i3

/-- The one that may come up comes up. -/
theorem wpK_single {n k f : Nat} {L : Array Bool → Act → C → Prop} {listed : Array Bool} {a : Act} {c : C} (hr : Region.ready md ops listed = [k]) (hk : k < n)
    (h : ∀ w, Ok c w → wpOp P ops Q k (fun a' w' => ∃ c', le c c' ∧ Ok c' w' ∧ wpK P md ops Q Ok le n L f (listed.setIfInBounds k true) a' c') a w) : wpK P md ops Q Ok le n L (f + 1) listed a c := fun w hw => by
  refine ⟨fun h0 => (by rw [hr] at h0; cases h0), fun i hi => ?_⟩
  rw [hr] at hi
  have : i = k := by simpa using hi
  subst this
  exact ⟨hk, h w hw⟩

/-- How the operations are taken: first, alone, or alone and whatever it does. -/
inductive Tk where
  | q (k : Nat)
  | e (k : Nat)
  | b (k : Nat)

def Tk.at : Tk → Nat
  | .q k => k
  | .e k => k
  | .b k => k

/-- Up to where the next ones go. -/
def nextB (m : Nat) : List Tk → Nat
  | [] => m
  | .b k :: _ => k
  | _ :: r => nextB m r

/-- May they be taken so? -/
def okTk (md : Region.Mode) (ops : Array Oper) : Nat → List Tk → Array Bool → Bool
  | n, [], listed => (Region.ready md ops listed).isEmpty && decide (n = ops.size)
  | n, .q k :: r, listed => (Region.ready md ops listed).contains k && Region.free md ops listed k && decide (k < n) && okTk md ops n r (listed.setIfInBounds k true)
  | n, .e k :: r, listed => decide (Region.ready md ops listed = [k]) && decide (k < n) && okTk md ops n r (listed.setIfInBounds k true)
  | n, .b k :: r, listed => decide (Region.ready md ops listed = [k]) && decide (n = k) && barB md ops (nextB ops.size r) && okTk md ops (nextB ops.size r) r (listed.setIfInBounds k true)

end
end Go.D

/- From the model's code to the small code. -/
namespace Go.D
set_option linter.all false

def ofS : Value → Option S
  | .bool b => some (.b b)
  | .int k n => some (.i k n)
  | .pointer none => some .np
  | .slice none 0 0 => some .ns
  | .nilFunc => some .nf
  | _ => none

def ofSs : List Value → Option (List S)
  | [] => some []
  | v :: vs => match ofS v, ofSs vs with
    | some s, some l => some (s :: l)
    | _, _ => none

def ofV : Value → Option V
  | .agg cs => (ofSs cs.toList).map V.agg
  | v => (ofS v).map V.s

def compX : Operand → Option Opd
  | .tmp t => some (.t t)
  | .const v => (ofV v).map Opd.k
  | .func f => some (.k (.s (.fn f [])))
  | .global _ => none

def compXs : List Operand → Option (List Opd)
  | [] => some []
  | x :: xs => match compX x, compXs xs with
    | some y, some l => some (y :: l)
    | _, _ => none

/-- A type's zero cells, their number. -/
def zeroOf (P : Program) (t : TypeId) : Option (List S) :=
  match P.info? t with
  | some i => match i.zero with
    | some z => match ofSs z.cells.toList with
      | some l => if l.length = i.size then some l else none
      | none => none
    | none => none
  | none => none

/-- Is a variable of a type many cells (so many), or one? -/
def shapeOf (P : Program) (t : TypeId) : Option (Option Nat) :=
  match P.info? t, P.underlying t with
  | some i, some (.struct _) => some (some i.size)
  | some i, some (.array _ _) => some (some i.size)
  | some _, some _ => some none
  | _, _ => none

/-- The fields lie one behind the other, from an offset on; each of cells that == compares. -/
def flatFs (g : TypeId → Option (List Bool)) : List Field → Nat → Option (List Bool)
  | [], _ => some []
  | f :: fs, n => if f.name ≠ "_" ∧ f.offset = n then (match g f.type with
    | some m => match flatFs g fs (n + m.length) with
      | some l => some (m ++ l)
      | none => none
    | none => none) else none

def rep (m : List Bool) : Nat → List Bool
  | 0 => []
  | n + 1 => m ++ rep m n

/-- Are all cells of a type numbers ('true') or bools that == compares one by one? -/
def flat (P : Program) : Nat → TypeId → Option (List Bool)
  | 0, _ => none
  | d + 1, t => match P.info? t, P.underlying t with
    | some i, some (.int _) => if i.size = 1 then some [true] else none
    | some i, some .bool => if i.size = 1 then some [false] else none
    | some i, some (.struct fs) =>
      if P.stoodInHeld t then none else
      match flatFs (flat P d) fs.toList 0 with
      | some l => if i.size = l.length then some l else none
      | none => none
    | some i, some (.array n e) => match flat P d e with
      | some m => if i.size = (rep m n).length then some (rep m n) else none
      | none => none
    | _, _ => none

def partsOf (P : Program) (place : Nat → Option (Nat × Nat)) : List (Nat × Operand) → Option (List (Nat × Nat × Opd))
  | [] => some []
  | (i, x) :: rest => match place i, compX x, partsOf P place rest with
    | some (off, size), some y, some l => some ((off, size, y) :: l)
    | _, _, _ => none

def fieldPlaces (P : Program) (fs : List Field) (i : Nat) : Option (Nat × Nat) :=
  match fs[i]? with
  | some f => (P.info? f.type).map fun t => (f.offset, t.size)
  | none => none

def allSized (P : Program) (fs : List Field) : Bool := fs.all fun f => (P.info? f.type).isSome

def nilPtr : Operand → Bool
  | .const (.pointer none) => true
  | _ => false
def nilSl : Operand → Bool
  | .const (.slice none 0 0) => true
  | _ => false

def compB : Option Operand → Option (Option Opd)
  | none => some none
  | some y => (compX y).map some

def compI (P : Program) (o : Oper) : Option I :=
  match o.op with
  | .move x | .assign x => (compX x).map I.mv
  | .pick c a b => match compX c, compX a, compX b with
    | some c, some a, some b => some (.pick c a b)
    | _, _, _ => none
  | .alloc t => (zeroOf P t).map I.new
  | .box _ x => (compX x).map I.box
  | .build t parts => match zeroOf P t, P.underlying t with
    | some z, some (.struct fs) => if allSized P fs.toList then (partsOf P (fieldPlaces P fs.toList) parts.toList).map (I.build z) else none
    | some z, some (.array _ e) => match P.info? e with
      | some i => (partsOf P (fun j => some (j * i.size, i.size)) parts.toList).map (I.build z)
      | none => none
    | _, _ => none
  | .buildSlice t n parts => match P.underlying t with
    | some (.slice e) => match P.info? e, zeroOf P e with
      | some i, some z => if n * i.size ≤ 2 ^ 24 ∧ i.size ≠ 0 then (partsOf P (fun j => some (j * i.size, i.size)) parts.toList).map (I.bsl n (zeros z n)) else none
      | _, _ => none
    | _ => none
  | .load t a => match compX a, shapeOf P t with
    | some a, some n => some (.ld a n)
    | _, _ => none
  | .store t a x => match compX a, compX x, P.info? t with
    | some a, some x, some i => some (.st a x i.size)
    | _, _, _ => none
  | .nilCheck x => (compX x).map I.nil
  | .binOp op t x y _ => match compX x, compX y with
    | some x', some y' =>
      match op with
      | .eql | .neq =>
        match P.underlying t with
        | some (.struct _) | some (.array _ _) => match flat P 20 t with
          | some n => if P.eqGuardType P.depth t then none else some (.eqa (op matches .neq) n x' y')
          | none => none
        | some (.pointer _) => if nilPtr y then some (.eqn false (op matches .neq) x') else none
        | some (.slice _) => if nilSl y then some (.eqn true (op matches .neq) x') else none
        | some .bool => some (.eqb (op matches .neq) x' y')
        | some (.int _) => some (.bin op x' y')
        | _ => none
      | _ => some (.bin op x' y')
    | _, _ => none
  | .unOp op _ x => (compX x).map (I.un op)
  | .convert src dst x => match P.underlying src, P.underlying dst, compX x with
    | some _, some (.int k), some x => some (.conv k x)
    | _, _, _ => none
  | .makeFunc (.func f) first caps => if first.isEmpty then (compXs caps.toList).map (I.mkf f) else none
  | .makeSlice t n c => match P.underlying t, compX n, compX c with
    | some (.slice e), some n, some c => match P.info? e, zeroOf P e with
      | some i, some z => if i.size = 0 then none else some (.mks i.size i.bytes z n c)
      | _, _ => none
    | _, _, _ => none
  | .slice t x lo hi mx => match mx with
    | some _ => none
    | none =>
      match compX x, compB lo, compB hi with
      | some x, some lo, some hi => match P.underlying t with
        | some (.slice e) => (P.info? e).map fun i => .slc none i.size x lo hi
        | some (.array n e) => (P.info? e).map fun i => .slc (some n) i.size x lo hi
        | _ => none
      | _, _, _ => none
  | .fieldAddr s x f => match P.underlying s, compX x with
    | some (.struct fs), some x => match fs[f]? with
      | some f => match P.info? f.type with
        | some i => if i.size = 0 then none else some (.fa x f.offset)
        | none => none
      | none => none
    | _, _ => none
  | .field s x f => match P.underlying s, compX x with
    | some (.struct fs), some x => match fs[f]? with
      | some f => (shapeOf P f.type).map fun n => .fld x f.offset n
      | none => none
    | _, _ => none
  | .indexAddr t x i => match P.underlying t, compX x, compX i with
    | some (.array n e), some x, some i => (P.info? e).map fun k => .ia (some n) k.size x i
    | some (.slice e), some x, some i => (P.info? e).map fun k => .ia none k.size x i
    | _, _, _ => none
  | .index t x i => match P.underlying t, compX x, compX i with
    | some (.array n e), some x, some i => match P.info? e, shapeOf P e with
      | some k, some m => some (.ix n k.size m x i)
      | _, _ => none
    | _, _, _ => none
  | .extract x j => (compX x).map fun x => .ext x j
  | .call c => match c.callee with
    | .value (.func f) => match P.funcs[f]? with
      | some fn => if fn.body.isSome ∧ (fn.name == "runtime.NumGoroutine") = false then (compXs c.args.toList).map (I.call f) else none
      | none => none
    | .value (.tmp t) => (compXs c.args.toList).map (I.callv (.t t))
    | .builtin .len => match c.args.toList, c.argTypes.toList with
      | [x], [t] => match P.underlying t with
        | some (.slice _) => (compX x).map I.len
        | _ => none
      | _, _ => none
    | .builtin .append => match c.args.toList, c.argTypes.toList with
      | [x, y], [t, u] => match P.underlying t, P.underlying u with
        | some (.slice e), some (.slice _) => match P.info? e, zeroOf P e, compX x, compX y with
          | some i, some _, some x, some y => if i.bytes = 0 then none else some (.app i.size i.bytes x y)
          | _, _, _, _ => none
        | _, _ => none
      | _, _ => none
    | .builtin .copy => match c.args.toList, c.argTypes.toList with
      | [x, y], [t, _] => match P.underlying t with
        | some (.slice e) => match P.info? e, compX x, compX y with
          | some i, some x, some y => some (.cpy i.size x y)
          | _, _, _ => none
        | _ => none
      | _, _ => none
    | .builtin .min => match c.args.toList with
      | [x, y] => match compX x, compX y with
        | some x, some y => some (.mx false x y)
        | _, _ => none
      | _ => none
    | .builtin .max => match c.args.toList with
      | [x, y] => match compX x, compX y with
        | some x, some y => some (.mx true x y)
        | _, _ => none
      | _ => none
    | _ => none
  | _ => none

def compG (P : Program) (ops : Array Oper) (o : Oper) : Option GI :=
  match compI P o with
  | some i => match o.guard with
    | none => some ⟨o.dst, i, none⟩
    | some (j, want) => match ops[j]? with
      | some oj => match oj.dst with
        | some d => some ⟨o.dst, i, some (d, want)⟩
        | none => none
      | none => none
  | none => none

def compGs (P : Program) (ops : Array Oper) : List Oper → Option (List GI)
  | [] => some []
  | o :: os => match compG P ops o, compGs P ops os with
    | some g, some l => some (g :: l)
    | _, _ => none

/-- Instructions that write nothing, make nothing, and call nothing. -/
def I.still : I → Bool
  | .mv _ | .pick .. | .build .. | .ld .. | .nil _ | .bin .. | .eqb .. | .eqa .. | .eqn .. | .un .. | .conv .. | .mkf .. | .slc .. | .fa .. | .fld .. | .ia .. | .ix .. | .ext .. | .len _ | .mx .. => true
  | _ => false
def I.quiet : I → Bool
  | .call .. => true
  | i => i.still

/-- How many instructions at the head only look. -/
def headLen : List GI → Nat
  | [] => 0
  | x :: xs => if x.op.still then headLen xs + 1 else 0

/-- Instructions that only make a block. -/
def I.alloc : I → Bool
  | .new _ | .bsl .. => true
  | _ => false
def I.calls : I → Bool
  | .call .. | .callv .. => true
  | _ => false

def prefixB (listed : Array Bool) (n k : Nat) : Bool := (List.range n).all fun i => listed.getD i false == decide (i < k)

/-- A way to take a region's operations. -/
def takeTks (ops : Array Oper) (l : List GI) : Nat → Array Bool → Option (List Tk)
  | 0, _ => some []
  | f + 1, listed =>
    match Region.ready .any ops listed with
    | [] => some []
    | rd => match rd.find? (fun k => match l[k]? with | some g => g.op.still && Region.free .any ops listed k | none => false) with
      | some k => match takeTks ops l f (listed.setIfInBounds k true) with
        | some r => some (.q k :: r)
        | none => none
      | none => match rd with
        | [k] => match l[k]?, takeTks ops l f (listed.setIfInBounds k true) with
          | some g, some r =>
            if g.op.alloc && g.g.isNone then some (.e k :: r)
            else if prefixB listed ops.size k && barB .any ops k then some (.b k :: r)
            else if g.op.calls then some (.q k :: r) else none
          | _, _ => none
        | _ => none

/-- The instructions in that order. -/
def tkCode (l : List GI) : List Tk → Option (List (Bool × GI))
  | [] => some []
  | .q k :: r => match l[k]?, tkCode l r with
    | some g, some m => if g.op.still || g.op.calls then some ((true, g) :: m) else none
    | _, _ => none
  | .e k :: r => match l[k]?, tkCode l r with
    | some g, some m => if g.op.alloc && g.g.isNone then some ((false, g) :: m) else none
    | _, _ => none
  | .b k :: r => match l[k]?, tkCode l r with
    | some g, some m => some ((false, g) :: m)
    | _, _ => none

def drmOf (ops : Array Oper) (l : List GI) : Option (List (Bool × GI)) :=
  if Region.noSelect ops = true then
    match takeTks ops l ops.size (Array.replicate ops.size false) with
    | some tks => if (barB .any ops (nextB ops.size tks) && okTk .any ops (nextB ops.size tks) tks (Array.replicate ops.size false) && decide (tks.length = ops.size)) = true then tkCode l tks else none
    | none => none
  else none

/-- A region whose order is drawn. -/
def compDr (ops : Array Oper) (l : List GI) : Option DC :=
  if l.all (fun x => x.op.still) = true ∧ Region.lexB .any ops = true then some (.drq l)
  else if Region.lexTailB .any ops (headLen l) = true then some (.drt (headLen l) l)
  else match drmOf ops l with
    | some s => some (.drm s)
    | none => if l.all (fun x => x.op.quiet) = true ∧ Region.lexB .any ops = true then some (.drq l) else none

/-- The labels to which a piece of code can be entered. -/
def labelsOf : Code → List Nat
  | .seq a b => labelsOf a ++ labelsOf b
  | .label l => [l]
  | _ => []

/-- The small code's exits: a goto's, and a scope's end. -/
def goId (l : Nat) : Nat := 1000000 + 2 * l
def outId (l : Nat) : Nat := 1000001 + 2 * l

mutual
def compC (P : Program) : Code → Option DC
  | .skip => some .skip
  | .region _ ops false => (compGs P ops ops.toList).map DC.reg
  | .region _ ops true => match compGs P ops ops.toList with
    | some l => compDr ops l
    | none => none
  | .seq a b => match compC P a, compC P b with
    | some a, some b => some (.seq a b)
    | _, _ => none
  | .cond c a b => match compX c, compC P a, compC P b with
    | some c, some a, some b => some (.cond c a b)
    | _, _, _ => none
  | .block id c => if id < 1000000 then (compC P c).map (DC.block id) else none
  | .loop c => (compC P c).map DC.loop
  | .exit id => if id < 1000000 then some (.exit id) else none
  | .ret => some .ret
  | .label _ => some .skip
  | .goto l => some (.exit (goId l))
  | .scope c => match labelsOf c with
    | [] => compC P c
    | [l] => match compC P c, compT P l c with
      | some d, some r => some (.block (outId l) (.seq (.block (goId l) (.seq d (.exit (outId l)))) (.loop (.block (goId l) (.seq r (.exit (outId l)))))))
      | _, _ => none
    | _ => none
  | _ => none
/-- What lies behind a label. -/
def compT (P : Program) (l : Nat) : Code → Option DC
  | .seq a b => match findLabel a l with
    | some _ => match compT P l a, compC P b with
      | some r, some d => some (.seq r d)
      | _, _ => none
    | none => compT P l b
  | .label l' => if l' = l then some .skip else none
  | _ => none
end

def compR (P : Program) : List ResultVar → Option (List RV)
  | [] => some []
  | .tmp t :: rs => (compR P rs).map (RV.t t :: ·)
  | .cell a t :: rs => match shapeOf P t, compR P rs with
    | some n, some l => some (.c a n :: l)
    | _, _ => none

def compF (P : Program) (F : Func) : Option DF :=
  match F.body with
  | some c => match compC P c, compR P F.results.toList with
    | some d, some r => some ⟨F.ntmps, d, r⟩
    | _, _ => none
  | none => none

end Go.D

/- Soundness of the instructions that only look. -/
namespace Go.D
set_option linter.all false

/-- A temporary's value is what it is said to be, if anything is said. -/
def Is (σ : Sg) (v : V) (x : Value) : Prop := v = .s .u ∨ x = v.tr σ

structure TRel (σ : Sg) (t : List V) (tmps : Array Value) (n m : Nat) : Prop where
  size : t.length = tmps.size
  at_ : ∀ (i : Nat) (v : V), t[i]? = some v → v.val n m = true ∧ ∃ x, tmps[i]? = some x ∧ Is σ v x

theorem Is.mk {σ : Sg} (v : V) : Is σ v (v.tr σ) := .inr rfl

theorem ofS_tr {v : Value} {s : S} (h : ofS v = some s) (σ : Sg) : s.tr σ = v ∧ s.val 0 0 = true ∧ s ≠ .u := by
  unfold ofS at h
  split at h <;> first | (cases h; done) | (cases h; exact ⟨rfl, rfl, by simp⟩)

theorem ofSs_tr : ∀ {vs : List Value} {l : List S}, ofSs vs = some l → ∀ σ : Sg, l.map (S.tr σ) = vs ∧ vals 0 0 l = true ∧ known l = true
  | [], l, h, σ => by simp only [ofSs, Option.some.injEq] at h; subst h; exact ⟨rfl, rfl, rfl⟩
  | v :: vs, l, h, σ => by
    simp only [ofSs] at h
    cases h1 : ofS v with
    | none => simp [h1] at h
    | some s =>
      cases h2 : ofSs vs with
      | none => simp [h1, h2] at h
      | some l' =>
        simp only [h1, h2, Option.some.injEq] at h
        subst h
        have a := ofS_tr h1 σ
        have b := ofSs_tr h2 σ
        refine ⟨by simp [a.1, b.1], by simp only [vals, List.all_cons, Bool.and_eq_true]; exact ⟨a.2.1, b.2.1⟩, ?_⟩
        simp only [known, List.all_cons, Bool.and_eq_true]
        refine ⟨?_, b.2.2⟩
        have := a.2.2
        cases s <;> simp at this ⊢

theorem ofV_tr {v : Value} {x : V} (h : ofV v = some x) (σ : Sg) : x.tr σ = v ∧ x.val 0 0 = true ∧ x.known = true := by
  have hs : (ofS v).map V.s = some x → x.tr σ = v ∧ x.val 0 0 = true ∧ x.known = true := fun h => by
    cases h1 : ofS v with
    | none => simp [h1] at h
    | some s =>
      simp only [h1, Option.map_some, Option.some.injEq] at h
      subst h
      have a := ofS_tr h1 σ
      refine ⟨a.1, a.2.1, ?_⟩
      have := a.2.2
      cases s <;> simp [V.known] at this ⊢
  unfold ofV at h
  split at h
  · rename_i cs
    cases h1 : ofSs cs.toList with
    | none => simp [h1] at h
    | some l =>
      simp only [h1, Option.map_some, Option.some.injEq] at h
      subst h
      have a := ofSs_tr h1 σ
      refine ⟨?_, a.2.1, a.2.2⟩
      simp only [V.tr, trs, a.1]
  · exact hs h

theorem ev_is {σ : Sg} {t : List V} {a : Act} {n m : Nat} (hT : TRel σ t a.tmps n m) {x : Operand} {y : Opd} (hx : compX x = some y) :
    (ev t y).val n m = true ∧ Is σ (ev t y) (a.eval x) := by
  cases x with
  | tmp i =>
    simp only [compX, Option.some.injEq] at hx
    subst hx
    simp only [ev, Act.eval]
    rcases Nat.lt_or_ge i t.length with hlt | hge
    · have hi : t[i]? = some t[i] := List.getElem?_eq_getElem hlt
      obtain ⟨h1, x, h2, h3⟩ := hT.at_ i _ hi
      rw [show t.getD i (.tup []) = t[i] by simp [List.getD, hi]]
      refine ⟨h1, ?_⟩
      rw [Array.getD_eq_getD_getElem?, h2]; exact h3
    · rw [show t.getD i (.tup []) = .tup [] by simp [List.getD, List.getElem?_eq_none hge]]
      refine ⟨rfl, .inr ?_⟩
      rw [Array.getD_eq_getD_getElem?, Array.getElem?_eq_none (by rw [← hT.size]; exact hge)]; rfl
  | const v =>
    simp only [compX] at hx
    cases h1 : ofV v with
    | none => simp [h1] at hx
    | some w =>
      simp only [h1, Option.map_some, Option.some.injEq] at hx
      subst hx
      have a := ofV_tr h1 σ
      exact ⟨V.val_mono (Nat.zero_le _) (Nat.zero_le _) a.2.1, .inr a.1.symm⟩
  | global g => simp [compX] at hx
  | func f => simp only [compX, Option.some.injEq] at hx; subst hx; exact ⟨rfl, .inr rfl⟩

theorem Is.eq {σ : Sg} {v : V} {x : Value} (h : Is σ v x) (hv : v ≠ .s .u) : x = v.tr σ := h.resolve_left hv

/-- What an instruction that only looks does: one value, in whatever world the blocks stand. -/
def Looks (P : Program) (o : Oper) (op : I) : Prop :=
  ∀ (Γ : FuncId → FSpec) (σ : Sg) (t : List V) (a : Act) (ls h : List Blk) (K : List V → V → List Blk → List Blk → Prop),
    TRel σ t a.tmps h.length ls.length → (∀ r B, blk h ls r = some B → vals h.length ls.length B.cells = true) → iwp Γ op t ls h K →
    ∃ v x, K t v ls h ∧ v.val h.length ls.length = true ∧ Is σ v x ∧ ∀ w, Sim σ h ls w → (execOp a.eval o).run P w = .ok (.value x) w

section
variable {P : Program} {o : Oper}

theorem looks_mv {x : Operand} {y : Opd} (ho : o.op = .move x ∨ o.op = .assign x) (hx : compX x = some y) : Looks P o (.mv y) := by
  intro Γ σ t a ls h K hT hV hK
  obtain ⟨h1, h2⟩ := ev_is hT hx
  refine ⟨_, _, hK, h1, h2, fun w _ => ?_⟩
  rcases ho with ho | ho <;> simp [execOp, ho]

theorem looks_pick {c x y : Operand} {c' x' y' : Opd} (ho : o.op = .pick c x y) (hc : compX c = some c') (hx : compX x = some x') (hy : compX y = some y') : Looks P o (.pick c' x' y') := by
  intro Γ σ t a ls h K hT hV hK
  obtain ⟨_, c2⟩ := ev_is hT hc
  obtain ⟨x1, x2⟩ := ev_is hT hx
  obtain ⟨y1, y2⟩ := ev_is hT hy
  simp only [iwp] at hK
  split at hK
  · rename_i q hq
    rw [hq] at c2
    have hcv := c2.eq (by simp)
    cases q
    · exact ⟨_, _, hK, y1, y2, fun w _ => by simp [execOp, ho, hcv, V.tr, S.tr, asBool]⟩
    · exact ⟨_, _, hK, x1, x2, fun w _ => by simp [execOp, ho, hcv, V.tr, S.tr, asBool]⟩
  · exact hK.elim

theorem looks_nil {x : Operand} {y : Opd} (ho : o.op = .nilCheck x) (hx : compX x = some y) : Looks P o (.nil y) := by
  intro Γ σ t a ls h K hT hV hK
  obtain ⟨h1, h2⟩ := ev_is hT hx
  simp only [iwp] at hK
  split at hK
  · rename_i r n hq
    rw [hq] at h1 h2
    exact ⟨_, _, hK, h1, Is.mk _, fun w _ => by simp [execOp, ho, h2.eq (by simp), V.tr, S.tr]⟩
  · rename_i f cs hq
    rw [hq] at h1 h2
    exact ⟨_, _, hK, h1, Is.mk _, fun w _ => by simp [execOp, ho, h2.eq (by simp), V.tr, S.tr]⟩
  · exact hK.elim

theorem looks_un {u : UnOp} {T : TypeId} {x : Operand} {y : Opd} (ho : o.op = .unOp u T x) (hx : compX x = some y) : Looks P o (.un u y) := by
  intro Γ σ t a ls h K hT hV hK
  obtain ⟨h1, h2⟩ := ev_is hT hx
  simp only [iwp] at hK
  split at hK
  · rename_i s hq
    rw [hq] at h2
    unfold un1 at hK
    split at hK
    · exact ⟨_, _, hK, rfl, Is.mk _, fun w _ => by simp [execOp, ho, h2.eq (by simp), V.tr, S.tr, Op.unary]⟩
    · exact ⟨_, _, hK, rfl, Is.mk _, fun w _ => by simp [execOp, ho, h2.eq (by simp), V.tr, S.tr, Op.unary, Op.intArith]⟩
    · exact ⟨_, _, hK, rfl, Is.mk _, fun w _ => by simp [execOp, ho, h2.eq (by simp), V.tr, S.tr, Op.unary, intBits_xor]⟩
    · exact hK.elim
  · exact hK.elim

theorem looks_conv {src dst : TypeId} {d : TypeDesc} {k : IntKind} {x : Operand} {y : Opd} (ho : o.op = .convert src dst x) (hs : P.underlying src = some d) (hd : P.underlying dst = some (.int k))
    (hx : compX x = some y) : Looks P o (.conv k y) := by
  intro Γ σ t a ls h K hT hV hK
  obtain ⟨h1, h2⟩ := ev_is hT hx
  simp only [iwp] at hK
  split at hK
  · rename_i k' n hq
    rw [hq] at h2
    refine ⟨_, _, hK, rfl, Is.mk _, fun w _ => ?_⟩
    have hr := run_convert_int w src dst k' n (P := P) (by simp [hs]) (by simp [Program.intKind, hd])
    simp only [Program.intKind, hd] at hr
    simp [execOp, ho, h2.eq (by simp), V.tr, S.tr, hr]
  · exact hK.elim

theorem looks_ext {x : Operand} {y : Opd} {j : Nat} (ho : o.op = .extract x j) (hx : compX x = some y) : Looks P o (.ext y j) := by
  intro Γ σ t a ls h K hT hV hK
  obtain ⟨h1, h2⟩ := ev_is hT hx
  simp only [iwp] at hK
  split at hK
  · rename_i cs hq
    split at hK
    · rename_i c hc
      rw [hq] at h1 h2
      simp only [V.val, List.all_eq_true] at h1
      refine ⟨_, (c.v).tr σ, hK, ?_, Is.mk _, fun w _ => ?_⟩
      · have := h1 c (List.mem_of_getElem? hc)
        cases c <;> exact this
      · have : c.v.tr σ = c.tr σ := by cases c <;> rfl
        rw [this]
        have hv := h2.eq (by simp)
        simp [execOp, ho, hv, V.tr, Instr.extract, hc]
    · exact hK.elim
  · exact hK.elim

theorem looks_fa {T : TypeId} {x : Operand} {y : Opd} {j : Nat} {fs : Array Field} {f : Field} {i : TypeInfo} (ho : o.op = .fieldAddr T x j) (hu : P.underlying T = some (.struct fs)) (hf : fs[j]? = some f)
    (hi : P.info? f.type = some i) (hs : i.size ≠ 0) (hx : compX x = some y) : Looks P o (.fa y f.offset) := by
  intro Γ σ t a ls h K hT hV hK
  obtain ⟨h1, h2⟩ := ev_is hT hx
  simp only [iwp] at hK
  split at hK
  · rename_i r n hq
    rw [hq] at h1 h2
    refine ⟨_, _, hK, h1, Is.mk _, fun w _ => ?_⟩
    have hadd : (adr σ r n).add f.offset = adr σ r (n + f.offset) := by
      unfold Addr.add adr; split
      · rename_i e; simp [e]
      · simp [Nat.add_assoc]
    simp [execOp, ho, h2.eq (by simp), V.tr, S.tr, Instr.fieldAt, run_underlying hu, hf, Instr.sureAddr, fieldPlace, sizeOf, typeInfo, hi, hs, hadd]
  · exact hK.elim

end
end Go.D

/- Soundness of the instructions that only look: loads, parts, tests of equality, slices. -/
namespace Go.D
set_option linter.all false
open Go.D

theorem trs_sub (σ : Sg) (xs : List S) (o n : Nat) : (trs σ xs).extract o (o + n) = trs σ (sub xs o n) := by
  simp [trs, sub, List.map_take, List.map_drop]
theorem trs_size (σ : Sg) (xs : List S) : (trs σ xs).size = xs.length := by simp [trs]
theorem trs_get (σ : Sg) (xs : List S) (o : Nat) : (trs σ xs)[o]? = (xs[o]?).map (S.tr σ) := by simp [trs]

theorem vals_sub {n m o k : Nat} {xs : List S} (h : vals n m xs = true) : vals n m (sub xs o k) = true := by
  simp only [vals, List.all_eq_true] at *
  exact fun x hx => h x (List.mem_of_mem_drop (List.mem_of_mem_take hx))
theorem vals_get {n m o : Nat} {xs : List S} {s : S} (h : vals n m xs = true) (hs : xs[o]? = some s) : s.val n m = true := by
  simp only [vals, List.all_eq_true] at h; exact h s (List.mem_of_getElem? hs)

section
variable {P : Program} {o : Oper} (w : World)

theorem run_isAgg_some {T : TypeId} {n : Nat} (h : shapeOf P T = some (some n)) : (isAgg T).run P w = .ok true w ∧ (sizeOf T).run P w = .ok n w := by
  unfold shapeOf at h
  split at h
  · rename_i i fs hi hu; cases h; exact ⟨by simp [isAgg, run_underlying hu], by simp [sizeOf, typeInfo, hi]⟩
  · rename_i i n e hi hu; cases h; exact ⟨by simp [isAgg, run_underlying hu], by simp [sizeOf, typeInfo, hi]⟩
  · cases h
  · cases h
theorem run_isAgg_none {T : TypeId} (h : shapeOf P T = some none) : (isAgg T).run P w = .ok false w := by
  unfold shapeOf at h
  split at h
  · cases h
  · cases h
  · rename_i i d h1 h2 hi hu
    simp only [isAgg, Sem.run_bind, run_underlying hu, Result.andThen_ok]
    rfl
  · cases h

theorem run_part_some {T : TypeId} {n : Nat} (h : shapeOf P T = some (some n)) (σ : Sg) (xs : List S) (off : Nat) :
    (part T (trs σ xs) off).run P w = .ok (.agg (trs σ (sub xs off n))) w := by
  have := run_isAgg_some w h
  simp [part, this.1, this.2, trs_sub]
theorem run_part_none {T : TypeId} (h : shapeOf P T = some none) (σ : Sg) (xs : List S) (off : Nat) {s : S} (hs : xs[off]? = some s) :
    (part T (trs σ xs) off).run P w = .ok (s.tr σ) w := by
  have := run_isAgg_none w h
  simp [part, this, trs_get, hs]
end

section
variable {P : Program} {o : Oper}

theorem looks_fld {T : TypeId} {x : Operand} {y : Opd} {j : Nat} {fs : Array Field} {f : Field} {n : Option Nat} (ho : o.op = .field T x j) (hu : P.underlying T = some (.struct fs)) (hf : fs[j]? = some f)
    (hn : shapeOf P f.type = some n) (hx : compX x = some y) : Looks P o (.fld y f.offset n) := by
  intro Γ σ t a ls h K hT hV hK
  obtain ⟨h1, h2⟩ := ev_is hT hx
  simp only [iwp] at hK
  split at hK
  · rename_i xs hq
    rw [hq] at h1 h2
    have hv := h2.eq (by simp)
    split at hK
    · split at hK
      · rename_i s hs
        refine ⟨_, _, hK, vals_get h1 hs, Is.mk _, fun w _ => ?_⟩
        simp [execOp, ho, hv, V.tr, Instr.field, run_underlying hu, hf, asAgg, run_part_none w hn σ xs _ hs]
      · exact hK.elim
    · rename_i n
      refine ⟨_, _, hK.2, vals_sub h1, Is.mk _, fun w _ => ?_⟩
      simp [execOp, ho, hv, V.tr, Instr.field, run_underlying hu, hf, asAgg, run_part_some w hn σ xs]
  · exact hK.elim

theorem adr_add (σ : Sg) (r : R) (o n : Nat) : (adr σ r o).add n = adr σ r (o + n) := by
  unfold Addr.add adr; split
  · rename_i e; simp [e]
  · simp [Nat.add_assoc]

theorem looks_ia {T e : TypeId} {x i : Operand} {y i' : Opd} {arr : Option Nat} {k : TypeInfo} (ho : o.op = .indexAddr T x i)
    (hu : match arr with | some n => P.underlying T = some (.array n e) | none => P.underlying T = some (.slice e)) (hk : P.info? e = some k)
    (hx : compX x = some y) (hi : compX i = some i') : Looks P o (.ia arr k.size y i') := by
  intro Γ σ t a ls h K hT hV hK
  obtain ⟨h1, h2⟩ := ev_is hT hx
  obtain ⟨_, i2⟩ := ev_is hT hi
  simp only [iwp] at hK
  split at hK
  · rename_i kk iv hqi
    rw [hqi] at i2
    have hiv := i2.eq (by simp)
    split at hK
    · rename_i n r off hq
      obtain ⟨hb, hK⟩ := hK
      rw [hq] at h1 h2
      have hv := h2.eq (by simp)
      refine ⟨_, _, hK, h1, Is.mk _, fun w _ => ?_⟩
      simp only at hu
      simp [execOp, ho, hv, hiv, V.tr, S.tr, Instr.indexAt, asIntOf, run_underlying hu, Instr.sureAddr, hb, sizeOf, typeInfo, hk, adr_add]
    · rename_i r off n c hq
      obtain ⟨hb, hK⟩ := hK
      rw [hq] at h1 h2
      have hv := h2.eq (by simp)
      refine ⟨_, _, hK, h1, Is.mk _, fun w _ => ?_⟩
      simp only at hu
      simp [execOp, ho, hv, hiv, V.tr, S.tr, Instr.indexAt, asIntOf, run_underlying hu, hb, sizeOf, typeInfo, hk, adr_add]
    · exact hK.elim
  · exact hK.elim

theorem looks_ix {T e : TypeId} {x i : Operand} {y i' : Opd} {len : Nat} {n : Option Nat} {k : TypeInfo} (ho : o.op = .index T x i)
    (hu : P.underlying T = some (.array len e)) (hk : P.info? e = some k) (hn : shapeOf P e = some n)
    (hx : compX x = some y) (hi : compX i = some i') : Looks P o (.ix len k.size n y i') := by
  intro Γ σ t a ls h K hT hV hK
  obtain ⟨h1, h2⟩ := ev_is hT hx
  obtain ⟨_, i2⟩ := ev_is hT hi
  simp only [iwp] at hK
  split at hK
  · rename_i xs kk iv hq hqi
    rw [hqi] at i2
    rw [hq] at h1 h2
    have hiv := i2.eq (by simp)
    have hv := h2.eq (by simp)
    obtain ⟨hb, hK⟩ := hK
    split at hK
    · split at hK
      · rename_i s hs
        refine ⟨_, _, hK, vals_get h1 hs, Is.mk _, fun w _ => ?_⟩
        simp [execOp, ho, hv, hiv, V.tr, S.tr, Instr.index, asIntOf, run_underlying hu, hb, sizeOf, typeInfo, hk, run_part_none w hn σ xs _ hs]
      · exact hK.elim
    · rename_i n
      refine ⟨_, _, hK.2, vals_sub h1, Is.mk _, fun w _ => ?_⟩
      simp [execOp, ho, hv, hiv, V.tr, S.tr, Instr.index, asIntOf, run_underlying hu, hb, sizeOf, typeInfo, hk, run_part_some w hn σ xs]
  · exact hK.elim

theorem looks_len {T e : TypeId} {x : Operand} {y : Opd} {c : Call} (ho : o.op = .call c) (hc : c.callee = .builtin .len) (ha : c.args.toList = [x]) (hat : c.argTypes.toList = [T])
    (hu : P.underlying T = some (.slice e)) (hx : compX x = some y) : Looks P o (.len y) := by
  have ha' : c.args = #[x] := by rw [← ha]
  have hat' : c.argTypes = #[T] := by rw [← hat]
  intro Γ σ t a ls h K hT hV hK
  obtain ⟨h1, h2⟩ := ev_is hT hx
  simp only [iwp] at hK
  split at hK
  · rename_i r off n c hq
    rw [hq] at h1 h2
    have hv := h2.eq (by simp)
    refine ⟨_, _, hK, rfl, Is.mk _, fun w _ => ?_⟩
    simp [execOp, ho, hv, V.tr, S.tr, resolve, hc, ha', hat', invoke, builtin, Builtin.len_, run_underlying hu, goInt]
  · rename_i hq
    rw [hq] at h1 h2
    have hv := h2.eq (by simp)
    refine ⟨_, _, hK, rfl, Is.mk _, fun w _ => ?_⟩
    simp [execOp, ho, hv, V.tr, S.tr, resolve, hc, ha', hat', invoke, builtin, Builtin.len_, run_underlying hu, goInt]
  · rename_i a0 c0 hq
    rw [hq] at h1 h2
    have hv := h2.eq (by simp)
    refine ⟨_, _, hK, rfl, Is.mk _, fun w _ => ?_⟩
    simp [execOp, ho, hv, V.tr, S.tr, resolve, hc, ha', hat', invoke, builtin, Builtin.len_, run_underlying hu, goInt]
  · exact hK.elim

theorem looks_mx {q : Bool} {x y : Operand} {x' y' : Opd} {c : Call} (ho : o.op = .call c) (hc : c.callee = .builtin (if q then .max else .min)) (ha : c.args.toList = [x, y])
    (hx : compX x = some x') (hy : compX y = some y') : Looks P o (.mx q x' y') := by
  have ha' : c.args = #[x, y] := by rw [← ha]
  intro Γ σ t a ls h K hT hV hK
  obtain ⟨h1, h2⟩ := ev_is hT hx
  obtain ⟨_, y2⟩ := ev_is hT hy
  simp only [iwp] at hK
  split at hK
  · rename_i k n k' m hq hq'
    rw [hq] at h2
    rw [hq'] at y2
    have hv := h2.eq (by simp)
    have hw := y2.eq (by simp)
    refine ⟨_, _, hK, rfl, Is.mk _, fun w _ => ?_⟩
    cases q
    · simp [execOp, ho, hv, hw, V.tr, S.tr, resolve, hc, ha', invoke, builtin, run_min_int2]
    · simp [execOp, ho, hv, hw, V.tr, S.tr, resolve, hc, ha', invoke, builtin, run_max_int2]
  · exact hK.elim

theorem capsOf_tr {σ : Sg} {t : List V} {a : Act} {n m : Nat} (hT : TRel σ t a.tmps n m) : ∀ {xs : List Operand} {ys : List Opd} {cs : List (R × Nat)}, compXs xs = some ys → capsOf t ys = some cs →
    xs.map a.eval = cs.map (fun x => Value.pointer (some (adr σ x.1 x.2))) ∧ cs.all (fun x => x.1.val n m) = true
  | [], ys, cs, hx, hc => by
    simp only [compXs, Option.some.injEq] at hx; subst hx
    simp only [capsOf, Option.some.injEq] at hc; subst hc
    exact ⟨rfl, rfl⟩
  | x :: xs, ys, cs, hx, hc => by
    simp only [compXs] at hx
    cases h1 : compX x with
    | none => simp [h1] at hx
    | some y =>
      cases h2 : compXs xs with
      | none => simp [h1, h2] at hx
      | some l =>
        simp only [h1, h2, Option.some.injEq] at hx
        subst hx
        simp only [capsOf] at hc
        obtain ⟨v1, v2⟩ := ev_is hT h1
        split at hc
        · rename_i r off l' hq hl
          simp only [Option.some.injEq] at hc
          subst hc
          obtain ⟨i1, i2⟩ := capsOf_tr hT h2 hl
          rw [hq] at v1 v2
          have hv := v2.eq (by simp)
          refine ⟨by simp [hv, i1, V.tr, S.tr], ?_⟩
          simp only [List.all_cons, Bool.and_eq_true]
          exact ⟨v1, i2⟩
        · cases hc

theorem looks_mkf {f : FuncId} {first caps : Array Operand} {ys : List Opd} (ho : o.op = .makeFunc (.func f) first caps) (hfirst : first.isEmpty = true) (hx : compXs caps.toList = some ys) : Looks P o (.mkf f ys) := by
  intro Γ σ t a ls h K hT hV hK
  simp only [iwp] at hK
  split at hK
  · rename_i cs hcs
    obtain ⟨h1, h2⟩ := capsOf_tr hT hx hcs
    refine ⟨_, _, hK, h2, Is.mk _, fun w _ => ?_⟩
    have hf : first = #[] := by simpa using hfirst
    have hcaps : caps.map a.eval = (cs.map fun x => Value.pointer (some (adr σ x.1 x.2))).toArray := by
      rw [← h1, ← Array.toList_map, Array.toArray_toList]
    simp [execOp, ho, V.tr, S.tr, Instr.makeFunc, hf, hcaps]
  · exact hK.elim

theorem known_of {s : S} (h : (V.s s).known = true) : s ≠ .u := by rintro rfl; simp [V.known] at h

theorem known_get {xs : List S} (h : known xs = true) {i : Nat} {s : S} (hs : xs[i]? = some s) : s ≠ .u := by
  rintro rfl
  simp only [known, List.all_eq_true] at h
  have := h _ (List.mem_of_getElem? hs)
  simp at this

theorem sub_get {xs : List S} {o n i : Nat} (hi : i < n) : (sub xs o n)[i]? = xs[o + i]? := by
  simp [sub, List.getElem?_take, List.getElem?_drop, hi]
theorem sub_length {xs : List S} {o n : Nat} (h : o + n ≤ xs.length) : (sub xs o n).length = n := by
  simp [sub]; omega

theorem run_loadCells_sub {σ : Sg} {h ls : List Blk} {w : World} (hS : Sim σ h ls w) {r : R} {B : Blk} (hB : blk h ls r = some B) (hd : B.st ≠ .dead) {o n : Nat} (hn : o + n ≤ B.cells.length)
    (hk : known (sub B.cells o n) = true) : (loadCells (adr σ r o) n).run P w = .ok (trs σ (sub B.cells o n)) w := by
  have hlen : ((sub B.cells o n).map (S.tr σ)).length = n := by simp [sub_length hn]
  have := run_loadCells_list (P := P) w (adr σ r o) ((sub B.cells o n).map (S.tr σ)) (fun j v hj => by
    rw [List.getElem?_map] at hj
    cases hs : (sub B.cells o n)[j]? with
    | none => simp [hs] at hj
    | some s =>
      simp only [hs, Option.map_some, Option.some.injEq] at hj
      subst hj
      have hjn : j < n := by have := (List.getElem?_eq_some_iff.1 hs).1; rw [sub_length hn] at this; exact this
      rw [adr_add]
      exact hS.cell hB hd (by rw [← sub_get hjn]; exact hs) (known_get hk hs))
  rw [hlen] at this
  exact this

theorem looks_ld {T : TypeId} {x : Operand} {y : Opd} {n : Option Nat} (ho : o.op = .load T x) (hn : shapeOf P T = some n) (hx : compX x = some y) : Looks P o (.ld y n) := by
  intro Γ σ t a ls h K hT hV hK
  obtain ⟨h1, h2⟩ := ev_is hT hx
  simp only [iwp] at hK
  split at hK
  · rename_i r off hq
    rw [hq] at h1 h2
    have hv := h2.eq (by simp)
    split at hK
    · rename_i B hB
      split at hK
      · split at hK
        · rename_i s hs
          obtain ⟨⟨hd, hkn⟩, hK⟩ := hK
          refine ⟨_, s.tr σ, hK, vals_get (hV r B hB) hs, Is.mk _, fun w hS => ?_⟩
          have hc := hS.cell hB hd hs (known_of hkn)
          simp [execOp, ho, hv, V.tr, S.tr, Instr.loadAt, Instr.sureAddr, loadVar, run_isAgg_none w hn, hc]
        · exact hK.elim
      · obtain ⟨⟨hd, hlen, hkn⟩, hK⟩ := hK
        refine ⟨_, _, hK, vals_sub (hV r B hB), Is.mk _, fun w hS => ?_⟩
        have hc := run_loadCells_sub (P := P) hS hB hd hlen hkn
        simp [execOp, ho, hv, V.tr, S.tr, Instr.loadAt, Instr.sureAddr, loadVar, run_isAgg_some w hn, hc]
    · exact hK.elim
  · exact hK.elim

/-! ### numbers and bools -/
theorem looks_bin {op : BinOp} {T U : TypeId} {x y : Operand} {x' y' : Opd} (ho : o.op = .binOp op T x y U) (hx : compX x = some x') (hy : compX y = some y') : Looks P o (.bin op x' y') := by
  intro Γ σ t a ls h K hT hV hK
  obtain ⟨_, h2⟩ := ev_is hT hx
  obtain ⟨_, y2⟩ := ev_is hT hy
  simp only [iwp] at hK
  split at hK
  · rename_i s s' hq hq'
    rw [hq] at h2; rw [hq'] at y2
    unfold bin1 at hK
    split at hK
    · rename_i k n k' m
      have hv := h2.eq (by simp)
      have hw := y2.eq (by simp)
      cases op <;> simp only at hK <;> obtain ⟨hp, hK⟩ := hK <;> (try subst hp)
      case quo =>
        obtain ⟨rfl, hp⟩ := hp
        exact ⟨_, _, hK, rfl, Is.mk _, fun w _ => by simp [execOp, ho, hv, hw, V.tr, S.tr, eqGuard, binOp, Op.intDiv, hp]⟩
      case rem =>
        obtain ⟨rfl, hp⟩ := hp
        exact ⟨_, _, hK, rfl, Is.mk _, fun w _ => by simp [execOp, ho, hv, hw, V.tr, S.tr, eqGuard, binOp, Op.intDiv, hp]⟩
      case shl => exact ⟨_, _, hK, rfl, Is.mk _, fun w _ => by simp [execOp, ho, hv, hw, V.tr, S.tr, eqGuard, binOp, shift_shl_any _ _ _ _ hp]⟩
      case shr => exact ⟨_, _, hK, rfl, Is.mk _, fun w _ => by simp [execOp, ho, hv, hw, V.tr, S.tr, eqGuard, binOp, shift_shr_any _ _ _ _ hp]⟩
      all_goals exact ⟨_, _, hK, rfl, Is.mk _, fun w _ => by simp [execOp, ho, hv, hw, V.tr, S.tr, eqGuard, binOp, Op.intArith, Op.intCmp, intBits_and, intBits_or, intBits_xor, intBits_andNot]⟩
    · exact hK.elim
  · exact hK.elim

theorem looks_eqb {q : Bool} {T U : TypeId} {x y : Operand} {x' y' : Opd} (ho : o.op = .binOp (if q then .neq else .eql) T x y U) (hu : P.underlying T = some .bool) (hx : compX x = some x') (hy : compX y = some y') : Looks P o (.eqb q x' y') := by
  intro Γ σ t a ls h K hT hV hK
  obtain ⟨_, h2⟩ := ev_is hT hx
  obtain ⟨_, y2⟩ := ev_is hT hy
  simp only [iwp] at hK
  split at hK
  · rename_i b c hq hq'
    rw [hq] at h2; rw [hq'] at y2
    have hv := h2.eq (by simp)
    have hw := y2.eq (by simp)
    refine ⟨_, _, hK, rfl, Is.mk _, fun w _ => ?_⟩
    cases q
    · simp [execOp, ho, hv, hw, V.tr, S.tr, eqGuard_at_bool, run_eql_bool, hu]
    · simp [execOp, ho, hv, hw, V.tr, S.tr, eqGuard_at_bool, run_neq_bool, hu]
  · exact hK.elim

end
end Go.D

/- Soundness of the instructions that only look: nil tests, equality of aggregates. -/
namespace Go.D
set_option linter.all false
section
variable {P : Program} {o : Oper}

theorem looks_eqn_ptr {q : Bool} {T U e : TypeId} {x y : Operand} {x' : Opd} (ho : o.op = .binOp (if q then .neq else .eql) T x y U)
    (hu : P.underlying T = some (.pointer e)) (hn : nilPtr y = true) (hx : compX x = some x') : Looks P o (.eqn false q x') := by
  intro Γ σ t a ls h K hT hV hK
  obtain ⟨_, h2⟩ := ev_is hT hx
  have hy : y = .const (.pointer none) := by
    unfold nilPtr at hn
    split at hn
    · rfl
    · cases hn
  have hp : P.underlying T = some (.pointer (P.pointee T)) := by simp [Program.pointee, hu]
  have hyv : a.eval (.const (.pointer none)) = .pointer none := rfl
  simp only [iwp] at hK
  split at hK
  · rename_i s hq
    split at hK
    · rename_i b hb
      rw [hq] at h2
      refine ⟨_, _, hK, rfl, Is.mk _, fun w _ => ?_⟩
      cases s <;> simp [isNil] at hb <;> subst hb
      all_goals
        have hv := h2.eq (by simp)
        simp only [V.tr, S.tr] at hv
        cases q <;> simp [execOp, ho, hv, hy, hyv, V.tr, S.tr, eqGuard_at_pointer, run_eql_pointer_nil _ _ _ hp, run_neq_pointer_nil _ _ _ hp]
    · exact hK.elim
  · exact hK.elim

theorem equalIn_sl {T e : TypeId} (hu : P.underlying T = some (.slice e)) (w : World) (d : Nat) (b : Option Addr) (n c : Nat) :
    (Op.equalIn (d + 1) T (.slice b n c) (.slice none 0 0)).run P w = .ok b.isNone w := by
  cases b <;> simp [Op.equalIn, run_underlying hu]
theorem run_eql_sl {T e : TypeId} (hu : P.underlying T = some (.slice e)) (w : World) (b : Option Addr) (n c : Nat) :
    (binOp .eql T (.slice b n c) (.slice none 0 0)).run P w = .ok (.bool b.isNone) w := by
  have h := equalIn_sl hu w 9999 b n c
  show ((Op.equalIn 10000 T (.slice b n c) (.slice none 0 0)) >>= fun r => Pure.pure (Value.bool r)).run P w = _
  rw [Sem.run_bind, h]; rfl
theorem run_neq_sl {T e : TypeId} (hu : P.underlying T = some (.slice e)) (w : World) (b : Option Addr) (n c : Nat) :
    (binOp .neq T (.slice b n c) (.slice none 0 0)).run P w = .ok (.bool (!b.isNone)) w := by
  have h := equalIn_sl hu w 9999 b n c
  show ((Op.equalIn 10000 T (.slice b n c) (.slice none 0 0)) >>= fun r => Pure.pure (Value.bool (!r))).run P w = _
  rw [Sem.run_bind, h]; rfl

theorem looks_eqn_sl {q : Bool} {T U e : TypeId} {x y : Operand} {x' : Opd} (ho : o.op = .binOp (if q then .neq else .eql) T x y U)
    (hu : P.underlying T = some (.slice e)) (hn : nilSl y = true) (hx : compX x = some x') : Looks P o (.eqn true q x') := by
  intro Γ σ t a ls h K hT hV hK
  obtain ⟨_, h2⟩ := ev_is hT hx
  have hy : y = .const (.slice none 0 0) := by
    unfold nilSl at hn
    split at hn
    · rfl
    · cases hn
  have hyv : a.eval (.const (.slice none 0 0)) = .slice none 0 0 := rfl
  simp only [iwp] at hK
  split at hK
  · rename_i s hq
    split at hK
    · rename_i b hb
      rw [hq] at h2
      refine ⟨_, _, hK, rfl, Is.mk _, fun w _ => ?_⟩
      cases s <;> simp [isNil] at hb <;> subst hb
      all_goals
        have hv := h2.eq (by simp)
        simp only [V.tr, S.tr] at hv
        cases q <;> simp [execOp, ho, hv, hy, hyv, V.tr, S.tr, eqGuard_at_slice, run_eql_sl hu, run_neq_sl hu]
    · exact hK.elim
  · exact hK.elim

/-! ### aggregates that are compared -/
theorem cmpS_length : ∀ {ks : List Bool} {a b : List S}, cmpS ks a b = true → a.length = ks.length ∧ b.length = ks.length
  | [], [], [], _ => ⟨rfl, rfl⟩
  | k :: ks, x :: a, y :: b, h => by
    simp only [cmpS, Bool.and_eq_true] at h
    have := cmpS_length h.2
    simp [this.1, this.2]
  | [], [], _ :: _, h => by simp [cmpS] at h
  | [], _ :: _, _, h => by simp [cmpS] at h
  | _ :: _, [], _, h => by simp [cmpS] at h
  | _ :: _, _ :: _, [], h => by simp [cmpS] at h
theorem eqS_append : ∀ (a b c d : List S), a.length = c.length → eqS (a ++ b) (c ++ d) = (eqS a c && eqS b d)
  | [], b, [], d, _ => by simp [eqS]
  | x :: a, b, y :: c, d, h => by
    simp only [List.cons_append, eqS]
    rw [eqS_append a b c d (by simpa using h), Bool.and_assoc]
  | [], _, _ :: _, _, h => by simp at h
  | _ :: _, _, [], _, h => by simp at h
theorem cmpS_append : ∀ (ks js : List Bool) (a b c d : List S), a.length = ks.length → c.length = ks.length → cmpS (ks ++ js) (a ++ b) (c ++ d) = (cmpS ks a c && cmpS js b d)
  | [], js, [], b, [], d, _, _ => by simp [cmpS]
  | k :: ks, js, x :: a, b, y :: c, d, h, h' => by
    simp only [List.cons_append, cmpS]
    rw [cmpS_append ks js a b c d (by simpa using h) (by simpa using h'), Bool.and_assoc]
  | [], _, _ :: _, _, _, _, h, _ => by simp at h
  | [], _, [], _, _ :: _, _, _, h => by simp at h
  | _ :: _, _, [], _, _, _, h, _ => by simp at h
  | _ :: _, _, _ :: _, _, [], _, _, h => by simp at h

/-- A value of a type, of its cells. -/
def repr (σ : Sg) (n : Option Nat) (xs : List S) : Value :=
  match n with
  | none => (xs.headD .u).tr σ
  | some _ => .agg (trs σ xs)

theorem sub_split (xs : List S) (o n m : Nat) : sub xs o (n + m) = sub xs o n ++ sub xs (o + n) m := by
  simp only [sub]
  rw [List.take_add, List.drop_drop]

theorem flat_shape {d : Nat} {T : TypeId} {l : List Bool} (h : flat P d T = some l) : ∃ m, shapeOf P T = some m ∧ (m = none → l.length = 1) ∧ (∀ k, m = some k → k = l.length) ∧ P.cellsOf T = l.length := by
  cases d with
  | zero => simp [flat] at h
  | succ d =>
    unfold flat at h
    split at h
    · rename_i i k hi hu
      split at h
      · rename_i hs; cases h; exact ⟨none, by simp [shapeOf, hi, hu], fun _ => rfl, (fun k hk => by cases hk), by simp [Program.cellsOf, hi, hs]⟩
      · cases h
    · rename_i i hi hu
      split at h
      · rename_i hs; cases h; exact ⟨none, by simp [shapeOf, hi, hu], fun _ => rfl, (fun k hk => by cases hk), by simp [Program.cellsOf, hi, hs]⟩
      · cases h
    · rename_i i fs hi hu
      split at h
      · cases h
      · split at h
        · rename_i m hm
          split at h
          · rename_i he; cases h; exact ⟨some i.size, by simp [shapeOf, hi, hu], (fun hk => by cases hk), (fun k hk => by cases hk; exact he), by simp [Program.cellsOf, hi, he]⟩
          · cases h
        · cases h
    · rename_i i a e hi hu
      split at h
      · rename_i m hm
        split at h
        · rename_i he; cases h; exact ⟨some i.size, by simp [shapeOf, hi, hu], (fun hk => by cases hk), (fun k hk => by cases hk; exact he), by simp [Program.cellsOf, hi, he]⟩
        · cases h
      · cases h
    · cases h

theorem run_part_flat {d : Nat} {T : TypeId} {l : List Bool} (hf : flat P d T = some l) (w : World) (σ : Sg) (xs : List S) (off : Nat) (hlen : off + l.length ≤ xs.length) :
    ∃ m, shapeOf P T = some m ∧ (part T (trs σ xs) off).run P w = .ok (repr σ m (sub xs off l.length)) w := by
  obtain ⟨m, hm, h1, h2, _⟩ := flat_shape hf
  refine ⟨m, hm, ?_⟩
  cases m with
  | none =>
    have hl := h1 rfl
    rw [hl] at hlen ⊢
    have hg : xs[off]? = some (xs[off]'(by omega)) := List.getElem?_eq_getElem (by omega)
    rw [run_part_none w hm σ xs off hg]
    have : sub xs off 1 = [xs[off]'(by omega)] := by
      apply List.ext_getElem?
      intro i
      by_cases hi : i < 1
      · rw [sub_get hi]; obtain rfl : i = 0 := by omega
        simp [hg]
      · rw [List.getElem?_eq_none (by rw [sub_length hlen]; omega), List.getElem?_eq_none (by simp; omega)]
    simp [repr, this]
  | some k =>
    obtain rfl := h2 k rfl
    simp [repr, run_part_some w hm σ xs off]

/-- == on a flat type. -/
def EqFlat (P : Program) (d : Nat) : Prop := ∀ (T : TypeId) (l : List Bool) (m : Option Nat) (D : Nat) (w : World) (σ : Sg) (xs ys : List S), flat P d T = some l → shapeOf P T = some m → d ≤ D →
  cmpS l xs ys = true → (Op.equalIn D T (repr σ m xs) (repr σ m ys)).run P w = .ok (eqS xs ys) w

theorem eqFields_flat {d : Nat} (IH : EqFlat P d) {D : Nat} (hD : d ≤ D) (w : World) (σ : Sg) (xs ys : List S) : ∀ (fs : List Field) (o : Nat) (l : List Bool), flatFs (flat P d) fs o = some l → o + l.length ≤ xs.length → o + l.length ≤ ys.length →
    cmpS l (sub xs o l.length) (sub ys o l.length) = true → (Op.eqFields D (trs σ xs) (trs σ ys) fs).run P w = .ok (eqS (sub xs o l.length) (sub ys o l.length)) w
  | [], o, l, hf, _, _, _ => by
    simp only [flatFs, Option.some.injEq] at hf
    subst hf
    simp [Op.eqFields, sub, eqS]
  | f :: fs, o, l, hf, hx, hy, hc => by
    simp only [flatFs] at hf
    split at hf
    · rename_i hno
      obtain ⟨hname, hoff⟩ := hno
      cases hm : flat P d f.type with
      | none => simp [hm] at hf
      | some k =>
        cases hr : flatFs (flat P d) fs (o + k.length) with
        | none => simp [hm, hr] at hf
        | some l' =>
        simp only [hm, hr, Option.some.injEq] at hf
        subst hf
        simp only [List.length_append] at hx hy hc ⊢
        rw [sub_split, sub_split] at hc ⊢
        have hl1 : (sub xs o k.length).length = k.length := sub_length (by omega)
        have hl2 : (sub ys o k.length).length = k.length := sub_length (by omega)
        rw [cmpS_append _ _ _ _ _ _ hl1 hl2, Bool.and_eq_true] at hc
        rw [eqS_append _ _ _ _ (by rw [hl1, hl2])]
        obtain ⟨m, hsm, p1⟩ := run_part_flat hm w σ xs o (by omega)
        obtain ⟨m', hsm', p2⟩ := run_part_flat hm w σ ys o (by omega)
        obtain rfl : m = m' := by rw [hsm] at hsm'; cases hsm'; rfl
        have p3 := IH f.type k m D w σ (sub xs o k.length) (sub ys o k.length) hm hsm hD hc.1
        have ih := eqFields_flat IH hD w σ xs ys fs (o + k.length) l' hr (by omega) (by omega) hc.2
        subst hoff
        simp only [Op.eqFields, hname, ne_eq, not_false_eq_true, if_true, Sem.run_bind, p1, p2, p3, Result.andThen_ok]
        cases eqS (sub xs f.offset k.length) (sub ys f.offset k.length)
        · simp
        · simpa using ih
    · cases hf

theorem eqItems_flat {d : Nat} (IH : EqFlat P d) {D : Nat} (hD : d ≤ D) (w : World) (σ : Sg) (xs ys : List S) {e : TypeId} {k : List Bool} (hk : flat P d e = some k) : ∀ (len i : Nat), i * k.length + (rep k len).length ≤ xs.length → i * k.length + (rep k len).length ≤ ys.length →
    cmpS (rep k len) (sub xs (i * k.length) (rep k len).length) (sub ys (i * k.length) (rep k len).length) = true →
    (Op.eqItems D e (P.cellsOf e) (trs σ xs) (trs σ ys) (List.range' i len)).run P w = .ok (eqS (sub xs (i * k.length) (rep k len).length) (sub ys (i * k.length) (rep k len).length)) w
  | 0, i, _, _, _ => by simp [Op.eqItems, sub, eqS, rep]
  | len + 1, i, hx, hy, hc => by
    obtain ⟨_, _, _, _, hcell⟩ := flat_shape hk
    simp only [rep, List.length_append] at hx hy hc ⊢
    have e2 : i * k.length + k.length = (i + 1) * k.length := by rw [Nat.add_mul, Nat.one_mul]
    rw [sub_split, sub_split, e2] at hc ⊢
    have hl1 : (sub xs (i * k.length) k.length).length = k.length := sub_length (by omega)
    have hl2 : (sub ys (i * k.length) k.length).length = k.length := sub_length (by omega)
    rw [cmpS_append _ _ _ _ _ _ hl1 hl2, Bool.and_eq_true] at hc
    rw [eqS_append _ _ _ _ (by rw [hl1, hl2])]
    obtain ⟨m, hsm, p1⟩ := run_part_flat hk w σ xs (i * k.length) (by omega)
    obtain ⟨m', hsm', p2⟩ := run_part_flat hk w σ ys (i * k.length) (by omega)
    obtain rfl : m = m' := by rw [hsm] at hsm'; cases hsm'; rfl
    have p3 := IH e k m D w σ (sub xs (i * k.length) k.length) (sub ys (i * k.length) k.length) hk hsm hD hc.1
    have ih := eqItems_flat IH hD w σ xs ys hk len (i + 1) (by omega) (by omega) hc.2
    simp only [List.range'_succ, Op.eqItems, hcell, Sem.run_bind, p1, p2, p3, Result.andThen_ok]
    rw [hcell] at ih
    cases eqS (sub xs (i * k.length) k.length) (sub ys (i * k.length) k.length)
    · simp
    · simpa using ih

theorem sub_all {xs : List S} {n : Nat} (h : xs.length = n) : sub xs 0 n = xs := by
  subst h; simp [sub]

theorem eqFlat : ∀ d, EqFlat P d
  | 0 => fun T n m D w σ xs ys h => by simp [flat] at h
  | d + 1 => fun T n m D w σ xs ys h hm hD hc => by
    have IH := eqFlat d
    obtain ⟨hx, hy⟩ := cmpS_length hc
    obtain ⟨D, rfl⟩ : ∃ D', D = D' + 1 := ⟨D - 1, by omega⟩
    unfold flat at h
    split at h
    · rename_i i k hi hu
      split at h
      · cases h
        obtain rfl : m = none := by simp only [shapeOf, hi, hu, Option.some.injEq] at hm; exact hm.symm
        obtain ⟨x, rfl⟩ := List.length_eq_one_iff.1 hx
        obtain ⟨y, rfl⟩ := List.length_eq_one_iff.1 hy
        simp only [cmpS, Bool.and_true] at hc
        cases x <;> cases y <;> simp only [cmp1, decide_eq_true_eq, Bool.false_eq_true] at hc
        subst hc
        simp [repr, S.tr, Op.equalIn, run_underlying hu, eqS, eq1]
      · cases h
    · rename_i i hi hu
      split at h
      · cases h
        obtain rfl : m = none := by simp only [shapeOf, hi, hu, Option.some.injEq] at hm; exact hm.symm
        obtain ⟨x, rfl⟩ := List.length_eq_one_iff.1 hx
        obtain ⟨y, rfl⟩ := List.length_eq_one_iff.1 hy
        simp only [cmpS, Bool.and_true] at hc
        cases x <;> cases y <;> simp only [cmp1, Bool.false_eq_true] at hc
        simp [repr, S.tr, Op.equalIn, run_underlying hu, eqS, eq1]
      · cases h
    · rename_i i fs hi hu
      split at h
      · cases h
      · rename_i hst
        split at h
        · rename_i m' hm'
          split at h
          · rename_i he
            cases h
            obtain rfl : m = some i.size := by simp only [shapeOf, hi, hu, Option.some.injEq] at hm; exact hm.symm
            have hfo : P.fieldsOf T = fs := by simp [Program.fieldsOf, hu]
            have := eqFields_flat IH (D := D) (by omega) w σ xs ys fs.toList 0 n hm' (by omega) (by omega) (by rw [sub_all hx, sub_all hy]; exact hc)
            rw [sub_all hx, sub_all hy] at this
            simp only [repr]
            rw [run_equalIn_struct w D T _ _ (by rw [hfo]; exact hu) (by simpa using hst), hfo, this]
          · cases h
        · cases h
    · rename_i i a e hi hu
      split at h
      · rename_i k hk
        split at h
        · rename_i he
          cases h
          obtain rfl : m = some i.size := by simp only [shapeOf, hi, hu, Option.some.injEq] at hm; exact hm.symm
          obtain ⟨me, hme, _, _, _⟩ := flat_shape hk
          have hie : ∃ ie, P.info? e = some ie := by
            unfold shapeOf at hme; split at hme <;> first | exact ⟨_, by assumption⟩ | cases hme
          obtain ⟨ie, hie⟩ := hie
          have := eqItems_flat IH (D := D) (by omega) w σ xs ys hk a 0 (by omega) (by omega) (by rw [Nat.zero_mul, sub_all hx, sub_all hy]; exact hc)
          rw [Nat.zero_mul, sub_all hx, sub_all hy] at this
          simp only [repr]
          rw [run_equalIn_array w D _ _ hu hie, List.range_eq_range', this]
        · cases h
      · cases h
    · cases h

theorem looks_eqa {q : Bool} {T U : TypeId} {x y : Operand} {x' y' : Opd} {l : List Bool} (ho : o.op = .binOp (if q then .neq else .eql) T x y U)
    (hs : (∃ fs, P.underlying T = some (.struct fs)) ∨ ∃ n e, P.underlying T = some (.array n e)) (hf : flat P 20 T = some l) (hg : P.eqGuardType P.depth T = false)
    (hx : compX x = some x') (hy : compX y = some y') : Looks P o (.eqa q l x' y') := by
  intro Γ σ t a ls h K hT hV hK
  obtain ⟨_, h2⟩ := ev_is hT hx
  obtain ⟨_, y2⟩ := ev_is hT hy
  simp only [iwp] at hK
  split at hK
  · rename_i xs ys hq hq'
    obtain ⟨hc, hK⟩ := hK
    rw [hq] at h2; rw [hq'] at y2
    have hv := h2.eq (by simp)
    have hw := y2.eq (by simp)
    simp only [V.tr] at hv hw
    refine ⟨_, _, hK, rfl, Is.mk _, fun w _ => ?_⟩
    have hm : ∃ k, shapeOf P T = some (some k) := by
      obtain ⟨m, hm, _, _⟩ := flat_shape hf
      cases hi : P.info? T with
      | none => simp [shapeOf, hi] at hm
      | some i => rcases hs with ⟨fs, hs⟩ | ⟨n, e, hs⟩ <;> exact ⟨i.size, by simp [shapeOf, hi, hs]⟩
    obtain ⟨k, hm⟩ := hm
    have := eqFlat 20 T l (some k) 10000 w σ xs ys hf hm (by omega) hc
    simp only [repr] at this
    cases q
    · simp [execOp, ho, hv, hw, V.tr, S.tr, run_eqGuard_agg w _ _ _ _ _ _ hg, run_eql_struct, this]
    · simp [execOp, ho, hv, hw, V.tr, S.tr, run_eqGuard_agg w _ _ _ _ _ _ hg, run_neq_struct, this]
  · exact hK.elim

end
end Go.D

/- Soundness of the instructions that only look: aggregates that are built, slices of slices; all of them together. -/
namespace Go.D
set_option linter.all false
section
variable {P : Program} {o : Oper}

theorem plain_known {v : V} (h : v.plain = true) : known v.cells = true ∧ v ≠ .s .u := by
  cases v with
  | s x => cases x <;> simp [V.plain, V.cells, known] at h ⊢
  | agg xs => exact ⟨h, by simp⟩
  | tup cs => simp [V.plain] at h

theorem plain_cells {v : V} (h : v.plain = true) (σ : Sg) : (v.tr σ).cells = trs σ v.cells := by
  cases v with
  | s x => cases x <;> simp [V.plain, V.cells, V.tr, S.tr, Value.cells, trs] at h ⊢
  | agg xs => rfl
  | tup cs => simp [V.plain] at h

theorem plain_val {v : V} {n m : Nat} (h : v.plain = true) (hv : v.val n m = true) : vals n m v.cells = true := by
  cases v with
  | s x => have hv' : x.val n m = true := hv; simp [vals, V.cells, hv']
  | agg xs => exact hv
  | tup cs => simp [V.plain] at h

theorem vals_put {n m : Nat} : ∀ (vs xs : List S) (o : Nat), vals n m xs = true → vals n m vs = true → vals n m (put xs o vs) = true
  | [], xs, o, h, _ => h
  | v :: vs, xs, o, h, h' => by
    simp only [vals, List.all_cons, Bool.and_eq_true] at h'
    exact vals_put vs (xs.set o v) (o + 1) (vals_set h h'.1) h'.2

theorem trs_put (σ : Sg) : ∀ (vs xs : List S) (o j : Nat), (((trs σ vs).toList.zipIdx j).foldl (fun cs (x : Value × Nat) => cs.setIfInBounds (o + x.2) x.1) (trs σ xs)) = trs σ (put xs (o + j) vs)
  | [], xs, o, j => rfl
  | v :: vs, xs, o, j => by
    have h1 : (trs σ xs).setIfInBounds (o + j) (v.tr σ) = trs σ (xs.set (o + j) v) := by
      simp [trs, List.map_set]
    have := trs_put σ vs (xs.set (o + j) v) o (j + 1)
    simp only [trs, List.map_cons, List.zipIdx_cons, List.foldl_cons] at this ⊢
    rw [put, show o + j + 1 = o + (j + 1) by omega, ← this]
    congr 1

theorem fill_run {σ : Sg} {t : List V} {a : Act} {n m : Nat} (hT : TRel σ t a.tmps n m) (place place' : Nat → Option (Nat × Nat)) (hpl : ∀ i x, place i = some x → place' i = some x) : ∀ (parts : List (Nat × Operand)) (qs : List (Nat × Nat × Opd)) (z z' : List S),
    partsOf P place parts = some qs → fillP t qs z = some z' → vals n m z = true → Instr.fill place' (trs σ z) (parts.map fun x => (x.1, a.eval x.2)) = some (trs σ z') ∧ vals n m z' = true
  | [], qs, z, z', hq, hz, hv => by
    simp only [partsOf, Option.some.injEq] at hq; subst hq
    simp only [fillP, Option.some.injEq] at hz; subst hz
    exact ⟨rfl, hv⟩
  | (i, x) :: parts, qs, z, z', hq, hz, hv => by
    simp only [partsOf] at hq
    split at hq
    · rename_i off size y l h1 h2 h3
      simp only [Option.some.injEq] at hq
      subst hq
      simp only [fillP] at hz
      split at hz
      · rename_i hc
        simp only [Bool.and_eq_true, beq_iff_eq, decide_eq_true_eq] at hc
        obtain ⟨⟨c1, c2⟩, c3⟩ := hc
        obtain ⟨e1, e2⟩ := ev_is hT h2
        have hx := e2.eq (plain_known c1).2
        have ih := fill_run hT place place' hpl parts l _ z' h3 hz (vals_put _ _ _ hv (plain_val c1 e1))
        refine ⟨?_, ih.2⟩
        simp only [List.map_cons, Instr.fill, hpl i _ h1, hx, plain_cells c1 σ, trs_size]
        rw [if_neg (by simp; omega)]
        have := trs_put σ (ev t y).cells z off 0
        rw [← ih.1]
        congr 1
        rw [← Array.foldl_toList, Array.toList_zipIdx]
        simpa using this
      · cases hz
    · cases hq

theorem zeroOf_run {T : TypeId} {z : List S} (h : zeroOf P T = some z) (σ : Sg) : ∃ i v, P.info? T = some i ∧ i.zero = some v ∧ v.cells = trs σ z ∧ vals 0 0 z = true ∧ known z = true ∧ z.length = i.size := by
  unfold zeroOf at h
  split at h
  · rename_i i hi
    split at h
    · rename_i v hz
      split at h
      · rename_i l hl
        split at h
        · rename_i hs
          cases h
          have := ofSs_tr hl σ
          exact ⟨i, v, hi, hz, by simp [trs, this.1], this.2.1, this.2.2, hs⟩
        · cases h
      · cases h
    · cases h
  · cases h

theorem looks_build_struct {T : TypeId} {parts : Array (Nat × Operand)} {fs : Array Field} {z : List S} {qs : List (Nat × Nat × Opd)} (ho : o.op = .build T parts) (hz : zeroOf P T = some z)
    (hu : P.underlying T = some (.struct fs)) (hall : allSized P fs.toList = true) (hq : partsOf P (fieldPlaces P fs.toList) parts.toList = some qs) : Looks P o (.build z qs) := by
  intro Γ σ t a ls h K hT hV hK
  simp only [iwp] at hK
  split at hK
  · rename_i z' hz'
    obtain ⟨i, v, hi, hiz, hcells, hvz, _, _⟩ := zeroOf_run hz σ
    have hpl : ∃ places, fs.toList.mapM (fun f => (P.info? f.type).map fun i => (f.offset, i.size)) = some places ∧ ∀ j x, fieldPlaces P fs.toList j = some x → places.toArray[j]? = some x := by
      clear hz' hK hq
      generalize fs.toList = l at hall
      induction l with
      | nil => exact ⟨[], rfl, fun j x hx => by simp [fieldPlaces] at hx⟩
      | cons f l ih =>
        simp only [allSized, List.all_cons, Bool.and_eq_true] at hall
        obtain ⟨ps, h1, h2⟩ := ih hall.2
        obtain ⟨k, hk⟩ := Option.isSome_iff_exists.1 hall.1
        refine ⟨(f.offset, k.size) :: ps, by simp [List.mapM_cons, hk, h1], fun j x hx => ?_⟩
        cases j with
        | zero => simp only [fieldPlaces, List.getElem?_cons_zero, hk, Option.map_some, Option.some.injEq] at hx; simp [hx]
        | succ j => simp only [fieldPlaces, List.getElem?_cons_succ] at hx; have := h2 j x hx; simpa using this
    obtain ⟨places, hp1, hp2⟩ := hpl
    obtain ⟨f1, f2⟩ := fill_run hT (fieldPlaces P fs.toList) (fun j => places.toArray[j]?) hp2 parts.toList qs z z' hq hz' (vals_mono (Nat.zero_le _) (Nat.zero_le _) hvz)
    refine ⟨_, _, hK, f2, Is.mk _, fun w _ => ?_⟩
    have hb : P.built T (parts.map fun (x : Nat × Operand) => (x.1, a.eval x.2)).toList = some (trs σ z') := by
      simp only [Program.built, hi, hu, hiz, hp1, hcells, Array.toList_map]
      exact f1
    have := run_build w T _ _ hb
    simp [execOp, ho, this, V.tr]
  · exact hK.elim

theorem looks_build_array {T e : TypeId} {n : Nat} {parts : Array (Nat × Operand)} {i : TypeInfo} {z : List S} {qs : List (Nat × Nat × Opd)} (ho : o.op = .build T parts) (hz : zeroOf P T = some z)
    (hu : P.underlying T = some (.array n e)) (hi : P.info? e = some i) (hq : partsOf P (fun j => some (j * i.size, i.size)) parts.toList = some qs) : Looks P o (.build z qs) := by
  intro Γ σ t a ls h K hT hV hK
  simp only [iwp] at hK
  split at hK
  · rename_i z' hz'
    obtain ⟨k, v, hk, hiz, hcells, hvz, _, _⟩ := zeroOf_run hz σ
    obtain ⟨f1, f2⟩ := fill_run hT _ (fun j => some (j * i.size, i.size)) (fun _ _ h => h) parts.toList qs z z' hq hz' (vals_mono (Nat.zero_le _) (Nat.zero_le _) hvz)
    refine ⟨_, _, hK, f2, Is.mk _, fun w _ => ?_⟩
    have hb : P.built T (parts.map fun (x : Nat × Operand) => (x.1, a.eval x.2)).toList = some (trs σ z') := by
      simp only [Program.built, hk, hu, hiz, hi, hcells, Array.toList_map]
      exact f1
    have := run_build w T _ _ hb
    simp [execOp, ho, this, V.tr]
  · exact hK.elim

/-- A bound of a slice expression. -/
theorem bnd_run {σ : Sg} {t : List V} {a : Act} {n m : Nat} (hT : TRel σ t a.tmps n m) {x : Option Operand} {y : Option Opd} (hx : compB x = some y) {d : Int} {l : Int} (hl : bnd d t y = some l) :
    (x = none ∧ l = d) ∨ ∃ z k, x = some z ∧ a.eval z = .int k l := by
  cases x with
  | none => simp only [compB, Option.some.injEq] at hx; subst hx; simp only [bnd, Option.some.injEq] at hl; exact .inl ⟨rfl, hl.symm⟩
  | some z =>
    simp only [compB] at hx
    cases h1 : compX z with
    | none => simp [h1] at hx
    | some z' =>
      simp only [h1, Option.map_some, Option.some.injEq] at hx
      subst hx
      simp only [bnd] at hl
      obtain ⟨_, h2⟩ := ev_is hT h1
      split at hl
      · rename_i k n hq
        cases hl
        rw [hq] at h2
        exact .inr ⟨z, k, rfl, h2.eq (by simp)⟩
      · cases hl

theorem sliceBounds_run (w : World) (isSl : Bool) (len cap : Nat) (lo hi : Option Value) {l u : Int} (hl : (lo = none ∧ l = 0) ∨ ∃ k, lo = some (.int k l)) (hu : (hi = none ∧ u = len) ∨ ∃ k, hi = some (.int k u))
    (h0 : 0 ≤ l) (h1 : l ≤ u) (h2 : u ≤ cap) : (Instr.sliceBounds isSl len cap lo hi none).run P w = .ok (l.toNat, u.toNat, cap) w := by
  have e1 : ((u.toNat : Nat) : Int) = u := Int.toNat_of_nonneg (by omega)
  rcases hu with ⟨rfl, rfl⟩ | ⟨k, rfl⟩
  · rcases hl with ⟨rfl, rfl⟩ | ⟨k', rfl⟩
    · simp [Instr.sliceBounds]
    · simp [Instr.sliceBounds, Instr.sliceBound, asIntOf, h0, h1]
  · rcases hl with ⟨rfl, rfl⟩ | ⟨k', rfl⟩
    · simp [Instr.sliceBounds, Instr.sliceBound, asIntOf, h2, h1]
    · simp [Instr.sliceBounds, Instr.sliceBound, asIntOf, h0, h2, e1, h1, (by omega : 0 ≤ u)]

theorem slice_addr (σ : Sg) (r : R) (off cap l k : Nat) : (if cap = l then adr σ r off else (adr σ r off).add (l * k)) = adr σ r (if cap = l then off else off + l * k) := by
  split
  · rfl
  · rw [adr_add]

theorem looks_slc {T e : TypeId} {x : Operand} {x' : Opd} {lo hi : Option Operand} {lo' hi' : Option Opd} {arr : Option Nat} {k : TypeInfo} (ho : o.op = .slice T x lo hi none)
    (hu : match arr with | some n => P.underlying T = some (.array n e) | none => P.underlying T = some (.slice e)) (hk : P.info? e = some k)
    (hx : compX x = some x') (hlo : compB lo = some lo') (hhi : compB hi = some hi') : Looks P o (.slc arr k.size x' lo' hi') := by
  intro Γ σ t a ls h K hT hV hK
  obtain ⟨h1, h2⟩ := ev_is hT hx
  simp only [iwp] at hK
  split at hK
  · rename_i n r off hq
    split at hK
    · rename_i l u hl hh
      obtain ⟨⟨g0, g1, g2⟩, hK⟩ := hK
      rw [hq] at h1 h2
      have hv := h2.eq (by simp)
      simp only [V.tr, S.tr] at hv
      have hL := bnd_run hT hlo hl
      have hU := bnd_run hT hhi hh
      refine ⟨_, _, hK, h1, Is.mk _, fun w _ => ?_⟩
      have hb := sliceBounds_run (P := P) w false n n (lo.map a.eval) (hi.map a.eval) (l := l) (u := u)
        (by rcases hL with ⟨rfl, h⟩ | ⟨z, k', rfl, h⟩; exact .inl ⟨rfl, h⟩; exact .inr ⟨k', by simp [h]⟩)
        (by rcases hU with ⟨rfl, h⟩ | ⟨z, k', rfl, h⟩; exact .inl ⟨rfl, h⟩; exact .inr ⟨k', by simp [h]⟩) g0 g1 g2
      simp only at hu
      simp only [execOp, ho, hv, Instr.sliceAt, Sem.run_bind, run_underlying hu, Result.andThen_ok, Instr.sureAddr, Sem.run_pure, Option.map_none, hb, sizeOf, typeInfo, run_program, hk, slice_addr, V.tr, S.tr]
    · exact hK.elim
  · rename_i r off n c hq
    split at hK
    · rename_i l u hl hh
      obtain ⟨⟨g0, g1, g2⟩, hK⟩ := hK
      rw [hq] at h1 h2
      have hv := h2.eq (by simp)
      simp only [V.tr, S.tr] at hv
      have hL := bnd_run hT hlo hl
      have hU := bnd_run hT hhi hh
      refine ⟨_, _, hK, h1, Is.mk _, fun w _ => ?_⟩
      have hb := sliceBounds_run (P := P) w true n c (lo.map a.eval) (hi.map a.eval) (l := l) (u := u)
        (by rcases hL with ⟨rfl, h⟩ | ⟨z, k', rfl, h⟩; exact .inl ⟨rfl, h⟩; exact .inr ⟨k', by simp [h]⟩)
        (by rcases hU with ⟨rfl, h⟩ | ⟨z, k', rfl, h⟩; exact .inl ⟨rfl, h⟩; exact .inr ⟨k', by simp [h]⟩) g0 g1 g2
      simp only at hu
      have hsa : (if c = l.toNat then some (adr σ r off) else (some (adr σ r off)).map (·.add (l.toNat * k.size))) = some (adr σ r (if c = l.toNat then off else off + l.toNat * k.size)) := by
        rw [← slice_addr]; split <;> rfl
      simp only [execOp, ho, hv, Instr.sliceAt, Instr.slice, Sem.run_bind, run_underlying hu, Result.andThen_ok, Sem.run_pure, Option.map_none, hb, sizeOf, typeInfo, run_program, hk, hsa, V.tr, S.tr]
    · exact hK.elim
  · rename_i hq
    split at hK
    · rename_i l u hl hh
      obtain ⟨⟨rfl, rfl⟩, hK⟩ := hK
      rw [hq] at h1 h2
      have hv := h2.eq (by simp)
      simp only [V.tr, S.tr] at hv
      have hL := bnd_run hT hlo hl
      have hU := bnd_run hT hhi hh
      refine ⟨_, _, hK, h1, Is.mk _, fun w _ => ?_⟩
      have hb := sliceBounds_run (P := P) w true 0 0 (lo.map a.eval) (hi.map a.eval) (l := 0) (u := 0)
        (by rcases hL with ⟨rfl, h⟩ | ⟨z, k', rfl, h⟩; exact .inl ⟨rfl, h⟩; exact .inr ⟨k', by simp [h]⟩)
        (by rcases hU with ⟨rfl, h⟩ | ⟨z, k', rfl, h⟩; exact .inl ⟨rfl, h⟩; exact .inr ⟨k', by simp [h]⟩) (by omega) (by omega) (by omega)
      simp only at hu
      simp only [execOp, ho, hv, Instr.sliceAt, Instr.slice, Sem.run_bind, run_underlying hu, Result.andThen_ok, Sem.run_pure, Option.map_none, hb, sizeOf, typeInfo, run_program, hk, V.tr, S.tr]
      rfl
    · exact hK.elim
  · exact hK.elim

end
end Go.D

/- Instructions that only look, all together; instructions that make and write. -/
namespace Go.D
set_option linter.all false

section
variable {P : Program} {o : Oper}

theorem looks_all {op : I} (hc : compI P o = some op) (hs : op.still = true) : Looks P o op := by
  unfold compI at hc
  split at hc
  · rename_i x ho
    cases hx : compX x with
    | none => simp [hx] at hc
    | some y => simp only [hx, Option.map_some, Option.some.injEq] at hc; subst hc; exact looks_mv (.inl ho) hx
  · rename_i x ho
    cases hx : compX x with
    | none => simp [hx] at hc
    | some y => simp only [hx, Option.map_some, Option.some.injEq] at hc; subst hc; exact looks_mv (.inr ho) hx
  · rename_i c x y ho
    split at hc
    · rename_i c' x' y' h1 h2 h3; cases hc; exact looks_pick ho h1 h2 h3
    · cases hc
  · rename_i T ho
    cases hz : zeroOf P T with
    | none => simp [hz] at hc
    | some z => simp only [hz, Option.map_some, Option.some.injEq] at hc; subst hc; cases hs
  · rename_i T x ho
    cases hx : compX x with
    | none => simp [hx] at hc
    | some y => simp only [hx, Option.map_some, Option.some.injEq] at hc; subst hc; cases hs
  · rename_i T parts ho
    split at hc
    · rename_i z fs hz hu
      split at hc
      · rename_i hall
        cases hq : partsOf P (fieldPlaces P fs.toList) parts.toList with
        | none => simp [hq] at hc
        | some qs => simp only [hq, Option.map_some, Option.some.injEq] at hc; subst hc; exact looks_build_struct ho hz hu hall hq
      · cases hc
    · rename_i z n e hz hu
      split at hc
      · rename_i i hi
        cases hq : partsOf P (fun j => some (j * i.size, i.size)) parts.toList with
        | none => simp [hq] at hc
        | some qs => simp only [hq, Option.map_some, Option.some.injEq] at hc; subst hc; exact looks_build_array ho hz hu hi hq
      · cases hc
    · cases hc
  · rename_i T n parts ho
    split at hc
    · rename_i e hu
      split at hc
      · rename_i i z hi hz
        split at hc
        · cases hq : partsOf P (fun j => some (j * i.size, i.size)) parts.toList with
          | none => simp [hq] at hc
          | some qs => simp only [hq, Option.map_some, Option.some.injEq] at hc; subst hc; cases hs
        · cases hc
      · cases hc
    · cases hc
  · rename_i T x ho
    split at hc
    · rename_i y n hx hn; cases hc; exact looks_ld ho hn hx
    · cases hc
  · rename_i T x y ho
    split at hc
    · cases hc; cases hs
    · cases hc
  · rename_i x ho
    cases hx : compX x with
    | none => simp [hx] at hc
    | some y => simp only [hx, Option.map_some, Option.some.injEq] at hc; subst hc; exact looks_nil ho hx
  · rename_i b T x y U ho
    split at hc
    · rename_i x' y' hx hy
      split at hc
      · split at hc
        · rename_i fs hu
          split at hc
          · rename_i l hl
            split at hc
            · cases hc
            · rename_i hg; cases hc; exact looks_eqa (q := false) ho (.inl ⟨_, hu⟩) hl (by simpa using hg) hx hy
          · cases hc
        · rename_i n e hu
          split at hc
          · rename_i l hl
            split at hc
            · cases hc
            · rename_i hg; cases hc; exact looks_eqa (q := false) ho (.inr ⟨_, _, hu⟩) hl (by simpa using hg) hx hy
          · cases hc
        · rename_i e hu
          split at hc
          · rename_i hn; cases hc; exact looks_eqn_ptr (q := false) ho hu hn hx
          · cases hc
        · rename_i e hu
          split at hc
          · rename_i hn; cases hc; exact looks_eqn_sl (q := false) ho hu hn hx
          · cases hc
        · rename_i hu; cases hc; exact looks_eqb (q := false) ho hu hx hy
        · cases hc; exact looks_bin ho hx hy
        · cases hc
      · split at hc
        · rename_i fs hu
          split at hc
          · rename_i l hl
            split at hc
            · cases hc
            · rename_i hg; cases hc; exact looks_eqa (q := true) ho (.inl ⟨_, hu⟩) hl (by simpa using hg) hx hy
          · cases hc
        · rename_i n e hu
          split at hc
          · rename_i l hl
            split at hc
            · cases hc
            · rename_i hg; cases hc; exact looks_eqa (q := true) ho (.inr ⟨_, _, hu⟩) hl (by simpa using hg) hx hy
          · cases hc
        · rename_i e hu
          split at hc
          · rename_i hn; cases hc; exact looks_eqn_ptr (q := true) ho hu hn hx
          · cases hc
        · rename_i e hu
          split at hc
          · rename_i hn; cases hc; exact looks_eqn_sl (q := true) ho hu hn hx
          · cases hc
        · rename_i hu; cases hc; exact looks_eqb (q := true) ho hu hx hy
        · cases hc; exact looks_bin ho hx hy
        · cases hc
      · cases hc; exact looks_bin ho hx hy
    · cases hc
  · rename_i u T x ho
    cases hx : compX x with
    | none => simp [hx] at hc
    | some y => simp only [hx, Option.map_some, Option.some.injEq] at hc; subst hc; exact looks_un ho hx
  · rename_i src dst x ho
    split at hc
    · rename_i d k y h1 h2 h3; cases hc; exact looks_conv ho h1 h2 h3
    · cases hc
  · rename_i f first caps ho
    split at hc
    · rename_i hf
      cases hx : compXs caps.toList with
      | none => simp [hx] at hc
      | some ys => simp only [hx, Option.map_some, Option.some.injEq] at hc; subst hc; exact looks_mkf ho hf hx
    · cases hc
  · rename_i T n c ho
    split at hc
    · split at hc
      · split at hc
        · cases hc
        · cases hc; cases hs
      · cases hc
    · cases hc
  · rename_i T x lo hi mx ho
    split at hc
    · cases hc
    · split at hc
      · rename_i x' lo' hi' h1 h2 h3
        split at hc
        · rename_i e hu
          cases hk : P.info? e with
          | none => simp [hk] at hc
          | some k => simp only [hk, Option.map_some, Option.some.injEq] at hc; subst hc; exact looks_slc (arr := none) ho hu hk h1 h2 h3
        · rename_i n e hu
          cases hk : P.info? e with
          | none => simp [hk] at hc
          | some k => simp only [hk, Option.map_some, Option.some.injEq] at hc; subst hc; exact looks_slc (arr := some n) ho hu hk h1 h2 h3
        · cases hc
      · cases hc
  · rename_i T x f ho
    split at hc
    · rename_i fs y hu hx
      split at hc
      · rename_i fl hf
        split at hc
        · rename_i i hi
          split at hc
          · cases hc
          · rename_i hsz; cases hc; exact looks_fa ho hu hf hi hsz hx
        · cases hc
      · cases hc
    · cases hc
  · rename_i T x f ho
    split at hc
    · rename_i fs y hu hx
      split at hc
      · rename_i fl hf
        cases hn : shapeOf P fl.type with
        | none => simp [hn] at hc
        | some n => simp only [hn, Option.map_some, Option.some.injEq] at hc; subst hc; exact looks_fld ho hu hf hn hx
      · cases hc
    · cases hc
  · rename_i T x i ho
    split at hc
    · rename_i n e x' i' hu hx hi
      cases hk : P.info? e with
      | none => simp [hk] at hc
      | some k => simp only [hk, Option.map_some, Option.some.injEq] at hc; subst hc; exact looks_ia (arr := some n) ho hu hk hx hi
    · rename_i e x' i' hu hx hi
      cases hk : P.info? e with
      | none => simp [hk] at hc
      | some k => simp only [hk, Option.map_some, Option.some.injEq] at hc; subst hc; exact looks_ia (arr := none) ho hu hk hx hi
    · cases hc
  · rename_i T x i ho
    split at hc
    · rename_i n e x' i' hu hx hi
      split at hc
      · rename_i k m hk hm; cases hc; exact looks_ix ho hu hk hm hx hi
      · cases hc
    · cases hc
  · rename_i x j ho
    cases hx : compX x with
    | none => simp [hx] at hc
    | some y => simp only [hx, Option.map_some, Option.some.injEq] at hc; subst hc; exact looks_ext ho hx
  · rename_i c ho
    split at hc
    · split at hc
      · split at hc
        · cases hx : compXs c.args.toList with
          | none => simp [hx] at hc
          | some ys => simp only [hx, Option.map_some, Option.some.injEq] at hc; subst hc; cases hs
        · cases hc
      · cases hc
    · cases hx : compXs c.args.toList with
      | none => simp [hx] at hc
      | some ys => simp only [hx, Option.map_some, Option.some.injEq] at hc; subst hc; cases hs
    · rename_i hcal
      split at hc
      · rename_i x T ha hat
        split at hc
        · rename_i e hu
          cases hx : compX x with
          | none => simp [hx] at hc
          | some y => simp only [hx, Option.map_some, Option.some.injEq] at hc; subst hc; exact looks_len ho hcal ha hat hu hx
        · cases hc
      · cases hc
    · split at hc
      · split at hc
        · split at hc
          · split at hc
            · cases hc
            · cases hc; cases hs
          · cases hc
        · cases hc
      · cases hc
    · split at hc
      · split at hc
        · split at hc
          · cases hc; cases hs
          · cases hc
        · cases hc
      · cases hc
    · rename_i hcal
      split at hc
      · rename_i x y ha
        split at hc
        · rename_i x' y' hx hy; cases hc; exact looks_mx (q := false) ho hcal ha hx hy
        · cases hc
      · cases hc
    · rename_i hcal
      split at hc
      · rename_i x y ha
        split at hc
        · rename_i x' y' hx hy; cases hc; exact looks_mx (q := true) ho hcal ha hx hy
        · cases hc
      · cases hc
    · cases hc
  · cases hc

end
end Go.D

/- Instructions that make memory and write it. -/
namespace Go.D
set_option linter.all false

theorem TRel.mono {σ σ' : Sg} {t : List V} {tmps : Array Value} {n m n' m' : Nat} (h : TRel σ t tmps n m) (hA : Agree n m σ σ') (hn : n ≤ n') (hm : m ≤ m') : TRel σ' t tmps n' m' := by
  refine ⟨h.size, fun i v hi => ?_⟩
  obtain ⟨h1, x, h2, h3⟩ := h.at_ i v hi
  refine ⟨V.val_mono hn hm h1, x, h2, ?_⟩
  rcases h3 with h3 | h3
  · exact .inl h3
  · exact .inr (by rw [h3, V.tr_congr hA v h1])

theorem TRel.put {σ : Sg} {t : List V} {a : Act} {n m : Nat} (h : TRel σ t a.tmps n m) (d : Option Nat) {v : V} {x : Value} (hv : v.val n m = true) (hx : Is σ v x) : TRel σ (putD t d v) (a.put d x).tmps n m := by
  cases d with
  | none => exact h
  | some d =>
    refine ⟨by simp [putD, Act.put, h.size], fun i u hi => ?_⟩
    simp only [putD, Act.put] at hi ⊢
    by_cases hid : d = i
    · subst hid
      rw [List.getElem?_set] at hi
      simp only [if_true] at hi
      split at hi
      · rename_i hlt
        cases hi
        exact ⟨hv, x, by rw [Array.getElem?_setIfInBounds_self, if_pos (by rw [← h.size]; exact hlt)], hx⟩
      · cases hi
    · rw [List.getElem?_set_ne hid] at hi
      obtain ⟨h1, y, h2, h3⟩ := h.at_ i u hi
      exact ⟨h1, y, by rw [Array.getElem?_setIfInBounds_ne hid]; exact h2, h3⟩

/-- What an instruction does. -/
def Acts (P : Program) (Γ : FuncId → FSpec) (o : Oper) (op : I) : Prop :=
  ∀ (σ0 : Sg) (h0 : List Blk) (w0 : World) (σ : Sg) (t : List V) (a : Act) (ls h : List Blk) (w : World) (K : List V → V → List Blk → List Blk → Prop) (next : Act → World → Prop) (Q : Exit → Act → World → Prop),
    Inv σ0 h0 w0 σ h ls w → TRel σ t a.tmps h.length ls.length → iwp Γ op t ls h K →
    (∀ σ' t' v x ls' h' w', Inv σ0 h0 w0 σ' h' ls' w' → TRel σ' t' a.tmps h'.length ls'.length → v.val h'.length ls'.length = true → Is σ' v x → K t' v ls' h' → next (a.put o.dst x) w') →
    o.wp P a w next Q

section
variable {P : Program} {o : Oper} {Γ : FuncId → FSpec}

theorem acts_of_value {a : Act} {w w' : World} {x : Value} {next : Act → World → Prop} {Q : Exit → Act → World → Prop} (hr : (execOp a.eval o).run P w = .ok (.value x) w') (h : next (a.put o.dst x) w') : o.wp P a w next Q := by
  unfold Oper.wp; rw [hr]; exact h

theorem acts_of_looks {op : I} (h : Looks P o op) : Acts P Γ o op := by
  intro σ0 h0 w0 σ t a ls hh w K next Q H hT hK hn
  obtain ⟨v, x, h1, h2, h3, h4⟩ := h Γ σ t a ls hh K hT (fun r B hb => H.sim.bval hb) hK
  exact acts_of_value (h4 w H.sim) (hn σ t v x ls hh w H hT h2 h3 h1)

/-- A new block of the function's own, and its address. -/
theorem new_own {σ0 : Sg} {h0 : List Blk} {w0 : World} {σ : Sg} {t : List V} {a : Act} {ls h : List Blk} {w : World} (H : Inv σ0 h0 w0 σ h ls w) (hT : TRel σ t a.tmps h.length ls.length)
    (cells : List S) (T : TypeId) (extra : Array Value) (hv : vals h.length ls.length cells = true) :
    ∃ σ', Inv σ0 h0 w0 σ' h (ls ++ [⟨.rw, cells, cells.length + extra.size⟩]) (w.alloc (.cells (trs σ cells ++ extra) T)) ∧
      TRel σ' t a.tmps h.length (ls ++ [(⟨.rw, cells, cells.length + extra.size⟩ : Blk)]).length ∧ ∀ o, adr σ' (.l ls.length) o = ⟨w.heap.size, o, none⟩ := by
  refine ⟨_, H.alloc cells T extra hv, hT.mono (agree_lay _ _ _ _ _ (Nat.le_refl _)) (Nat.le_refl _) (by simp), fun o => by simp [adr, lay]⟩

theorem acts_new {T : TypeId} {z : List S} (ho : o.op = .alloc T) (hz : zeroOf P T = some z) : Acts P Γ o (.new z) := by
  intro σ0 h0 w0 σ t a ls h w K next Q H hT hK hn
  obtain ⟨i, v, hi, hiz, hcells, hvz, _, _⟩ := zeroOf_run hz σ
  obtain ⟨σ', H', hT', hadr⟩ := new_own H hT z T #[] (vals_mono (Nat.zero_le _) (Nat.zero_le _) hvz)
  simp only [iwp] at hK
  simp only [Array.append_empty, Array.size_empty, Nat.add_zero] at H' hT'
  refine acts_of_value (w' := w.alloc (.cells (trs σ z) T)) (x := .pointer (some ⟨w.heap.size, 0, none⟩)) ?_ (hn σ' t _ _ _ h _ H' hT' ?_ (.inr ?_) hK)
  · simp [execOp, ho, Instr.alloc, zeroValue, typeInfo, hi, hiz, newVar, newRow, hcells]
  · simp [V.val, S.val, R.val]
  · simp [V.tr, S.tr, hadr]

theorem acts_box {T : TypeId} {x : Operand} {y : Opd} (ho : o.op = .box T x) (hx : compX x = some y) : Acts P Γ o (.box y) := by
  intro σ0 h0 w0 σ t a ls h w K next Q H hT hK hn
  simp only [iwp] at hK
  obtain ⟨hp, hK⟩ := hK
  obtain ⟨e1, e2⟩ := ev_is hT hx
  have hv := e2.eq (plain_known hp).2
  obtain ⟨σ', H', hT', hadr⟩ := new_own H hT (ev t y).cells T #[] (plain_val hp e1)
  simp only [Array.append_empty, Array.size_empty, Nat.add_zero] at H' hT'
  refine acts_of_value (w' := w.alloc (.cells (trs σ (ev t y).cells) T)) (x := .pointer (some ⟨w.heap.size, 0, none⟩)) ?_ (hn σ' t _ _ _ h _ H' hT' ?_ (.inr ?_) hK)
  · simp [execOp, ho, Instr.box, newVar, newRow, hv, plain_cells hp σ]
  · simp [V.val, S.val, R.val]
  · simp [V.tr, S.tr, hadr]

theorem zeros_length (z : List S) (n : Nat) : (zeros z n).length = n * z.length := by
  induction n with
  | zero => simp [zeros]
  | succ n ih => simp [zeros, ih, Nat.add_mul]; omega

theorem zeros_get (z : List S) (hz : z ≠ []) : ∀ (n j : Nat), j < n * z.length → (zeros z n)[j]? = z[j % z.length]?
  | 0, j, h => by simp at h
  | n + 1, j, h => by
    simp only [zeros]
    have hl : 0 < z.length := List.length_pos_iff.2 hz
    by_cases hj : j < z.length
    · rw [List.getElem?_append_left hj, Nat.mod_eq_of_lt hj]
    · rw [List.getElem?_append_right (by omega), zeros_get z hz n (j - z.length) (by rw [Nat.add_mul] at h; omega)]
      congr 1
      rw [Nat.mod_eq_sub_mod (by omega : j ≥ z.length)]

theorem zeros_trs (σ : Sg) (z : List S) (hz : z ≠ []) (n : Nat) : (Array.range (n * z.length)).map (fun j => (trs σ z)[j % (trs σ z).size]!) = trs σ (zeros z n) := by
  have hl : 0 < z.length := List.length_pos_iff.2 hz
  apply Array.ext
  · simp [trs, zeros_length]
  · intro j h1 h2
    simp only [Array.size_map, Array.size_range] at h1
    have hg := zeros_get z hz n j h1
    have hm : j % z.length < z.length := Nat.mod_lt _ hl
    have h3 : j < (zeros z n).length := by rw [zeros_length]; exact h1
    rw [List.getElem?_eq_getElem h3, List.getElem?_eq_getElem hm] at hg
    simp only [Option.some.injEq] at hg
    simp only [Array.getElem_map, Array.getElem_range, trs_size]
    rw [getElem!_pos _ _ (by rw [trs_size]; exact hm)]
    simp [trs, hg]

theorem zeros_vals {z : List S} (hz : vals 0 0 z = true) (n : Nat) : vals 0 0 (zeros z n) = true := by
  induction n with
  | zero => rfl
  | succ n ih => simp only [zeros, vals, List.all_append, Bool.and_eq_true]; exact ⟨hz, ih⟩

theorem acts_bsl {T e : TypeId} {n : Nat} {parts : Array (Nat × Operand)} {i : TypeInfo} {z : List S} {qs : List (Nat × Nat × Opd)} (ho : o.op = .buildSlice T n parts)
    (hu : P.underlying T = some (.slice e)) (hi : P.info? e = some i) (hz : zeroOf P e = some z) (hn24 : n * i.size ≤ 2 ^ 24) (hsz : i.size ≠ 0)
    (hq : partsOf P (fun j => some (j * i.size, i.size)) parts.toList = some qs) : Acts P Γ o (.bsl n (zeros z n) qs) := by
  intro σ0 h0 w0 σ t a ls h w K next Q H hT hK hn
  simp only [iwp] at hK
  split at hK
  · rename_i z' hz'
    obtain ⟨k, v, hk, hiz, hcells, hvz, _, hzl⟩ := zeroOf_run hz σ
    have hki : k = i := by rw [hk] at hi; cases hi; rfl
    rw [hki] at hk hiz hzl
    clear hki
    have hzne : z ≠ [] := by intro e; rw [e] at hzl; simp at hzl; omega
    obtain ⟨f1, f2⟩ := fill_run hT _ (fun j => some (j * i.size, i.size)) (fun _ _ h => h) parts.toList qs (zeros z n) z' hq hz' (vals_mono (Nat.zero_le _) (Nat.zero_le _) (zeros_vals hvz n))
    obtain ⟨σ', H', hT', hadr⟩ := new_own H hT z' e #[] f2
    simp only [Array.append_empty, Array.size_empty, Nat.add_zero] at H' hT'
    refine acts_of_value (w' := w.alloc (.cells (trs σ z') e)) (x := .slice (some ⟨w.heap.size, 0, none⟩) n n) ?_ (hn σ' t _ _ _ h _ H' hT' ?_ (.inr ?_) hK)
    · have h24 : ¬ (2 ^ 24 < n * i.size) := by omega
      by_cases h0 : n * i.size = 0
      · have hn0 : n = 0 := by rcases Nat.mul_eq_zero.1 h0 with h | h; exact h; exact absurd h hsz
        subst hn0
        have f1' : Instr.fill (fun j => some (j * i.size, i.size)) #[] (parts.toList.map fun x => (x.1, a.eval x.2)) = some (trs σ z') := f1
        simp [execOp, ho, Instr.buildSlice, run_underlying hu, sizeOf, typeInfo, hi, f1', newRow, Array.range_zero']
      · have f1' := f1
        rw [← zeros_trs σ z hzne n, hzl] at f1'
        simp [execOp, ho, Instr.buildSlice, run_underlying hu, sizeOf, typeInfo, hi, h24, h0, zeroValue, hiz, hcells, f1', newRow]
    · simp [V.val, S.val, R.val]
    · simp [V.tr, S.tr, hadr]
  · exact hK.elim

theorem acts_mks {T e : TypeId} {x y : Operand} {x' y' : Opd} {i : TypeInfo} {z : List S} (ho : o.op = .makeSlice T x y)
    (hu : P.underlying T = some (.slice e)) (hi : P.info? e = some i) (hz : zeroOf P e = some z) (hsz : i.size ≠ 0) (hx : compX x = some x') (hy : compX y = some y') : Acts P Γ o (.mks i.size i.bytes z x' y') := by
  intro σ0 h0 w0 σ t a ls h w K next Q H hT hK hn
  simp only [iwp] at hK
  split at hK
  · rename_i k1 n k2 c hq hq'
    obtain ⟨⟨g0, g1, g2, g3, _⟩, hK⟩ := hK
    obtain ⟨_, e1⟩ := ev_is hT hx
    obtain ⟨_, e2⟩ := ev_is hT hy
    rw [hq] at e1; rw [hq'] at e2
    have hn1 := e1.eq (by simp)
    have hc1 := e2.eq (by simp)
    simp only [V.tr, S.tr] at hn1 hc1
    obtain ⟨k, v, hk, hiz, hcells, hvz, _, hzl⟩ := zeroOf_run hz σ
    have hki : k = i := by rw [hk] at hi; cases hi; rfl
    rw [hki] at hk hiz hzl
    clear hki
    have hzne : z ≠ [] := by intro e; rw [e] at hzl; simp at hzl; omega
    obtain ⟨σ', H', hT', hadr⟩ := new_own H hT (zeros z c.toNat) e #[] (vals_mono (Nat.zero_le _) (Nat.zero_le _) (zeros_vals hvz _))
    simp only [Array.append_empty, Array.size_empty, Nat.add_zero] at H' hT'
    refine acts_of_value (w' := w.alloc (.cells (trs σ (zeros z c.toNat)) e)) (x := .slice (some ⟨w.heap.size, 0, none⟩) n.toNat c.toNat) ?_ (hn σ' t _ _ _ h _ H' hT' ?_ (.inr ?_) hK)
    · have w1 : IntKind.i64.wrap n = n := IntWalk.i64_in n (by omega)
      have w2 : IntKind.i64.wrap c = c := IntWalk.i64_in c (by omega)
      have hc0 : 0 ≤ c := by omega
      by_cases h0 : c.toNat * i.size = 0
      · have hn0 : c.toNat = 0 := by rcases Nat.mul_eq_zero.1 h0 with h | h; exact h; exact absurd h hsz
        have hcz : c = 0 := by omega
        have hnz : n = 0 := by omega
        subst hcz; subst hnz
        have w0 : IntKind.i64.wrap 0 = 0 := by decide
        simp [execOp, ho, Instr.makeSlice, run_underlying hu, hn1, hc1, asInt, asIntOf, sizeOf, typeInfo, hi, w0, newRow, zeros, trs, Array.range_zero']
      · have f1 := zeros_trs σ z hzne c.toNat
        rw [hzl] at f1
        have q1 : ¬ (c < 0) := by omega
        have q2 : ¬ (2 ^ 48 < ↑i.bytes * c) := by omega
        have q3 : ¬ (n < 0) := by omega
        have q4 : ¬ (c < n) := by omega
        simp [execOp, ho, Instr.makeSlice, run_underlying hu, hn1, hc1, asInt, asIntOf, sizeOf, typeInfo, hi, w1, w2, q1, q2, q3, q4, zeroValue, hiz, hcells, h0, f1, newRow]
        exact fun hq => absurd hq (by omega)
    · simp [V.val, S.val, R.val]
    · simp [V.tr, S.tr, hadr]
  · exact hK.elim

theorem known_put_all {vs : List S} (h : known vs = true) : known vs = true := h

theorem acts_st {T : TypeId} {x y : Operand} {x' y' : Opd} {i : TypeInfo} (ho : o.op = .store T x y) (hi : P.info? T = some i) (hx : compX x = some x') (hy : compX y = some y') : Acts P Γ o (.st x' y' i.size) := by
  intro σ0 h0 w0 σ t a ls h w K next Q H hT hK hn
  simp only [iwp] at hK
  split at hK
  · rename_i r off hq
    split at hK
    · rename_i B hB
      obtain ⟨⟨hrw, hp, hlen, hfit, htk⟩, hK⟩ := hK
      obtain ⟨_, e1⟩ := ev_is hT hx
      obtain ⟨_, e2⟩ := ev_is hT hy
      rw [hq] at e1
      have hxv := e1.eq (by simp)
      simp only [V.tr, S.tr] at hxv
      have hyv := e2.eq (plain_known hp).2
      obtain ⟨w', hr, H'⟩ := storeCells_run (P := P) r off (ev t y').cells 0 h ls w B H hB hrw (by omega) (plain_known hp).1 htk
      simp only [Nat.add_zero] at H'
      have hT' : TRel σ t a.tmps (setH h r { B with cells := put B.cells off (ev t y').cells }).length (setL ls r { B with cells := put B.cells off (ev t y').cells }).length := by
        rw [setH_length, setL_length]; exact hT
      unfold Oper.wp
      have hrun : (execOp a.eval o).run P w = .ok .skip w' := by
        have hsz : ((ev t y').tr σ).cells.size = i.size := by rw [plain_cells hp σ, trs_size, hlen]
        have hr' : (storeCells (adr σ r off) ((ev t y').tr σ).cells.toList 0).run P w = .ok () w' := by
          rw [plain_cells hp σ]; exact hr
        simp [execOp, ho, hxv, hyv, Instr.storeAt, Instr.sureAddr, storeVar, sizeOf, typeInfo, hi, hsz, hr']
      rw [hrun]
      exact hn σ t _ undef _ _ w' H' hT' rfl (.inr rfl) hK
    · exact hK.elim
  · exact hK.elim

theorem shows_run {σ : Sg} {h ls : List Blk} {w : World} (hS : Sim σ h ls w) {esize : Nat} {s : S} {n : Nat} {xs : List S} (hsh : shows ls h esize s = some (n, xs)) (hk : known xs = true) (hu : s ≠ .u) (m : Nat) (hm : m ≤ n) :
    (Builtin.lenOf (s.tr σ)).run P w = .ok n w ∧ (Builtin.firstCells esize m (s.tr σ)).run P w = .ok (trs σ (sub xs 0 (m * esize))) w ∧ xs.length = n * esize := by
  unfold shows at hsh
  split at hsh
  · rename_i r off n' c
    split at hsh
    · rename_i B hB
      split at hsh
      · split at hsh
        · rename_i h0
          simp only [Option.some.injEq, Prod.mk.injEq] at hsh
          obtain ⟨rfl, rfl⟩ := hsh
          subst h0
          have : m = 0 := by omega
          subst this
          exact ⟨by simp [Builtin.lenOf, S.tr], by simp [Builtin.firstCells, S.tr, sub, trs, loadCells, loadCellsFrom], by simp⟩
        · cases hsh
      · rename_i hno
        rw [not_or] at hno
        obtain ⟨hd, hlen⟩ := hno
        simp only [Option.some.injEq, Prod.mk.injEq] at hsh
        obtain ⟨rfl, rfl⟩ := hsh
        have hle : m * esize ≤ n' * esize := Nat.mul_le_mul_right _ hm
        have e1 : sub (sub B.cells off (n' * esize)) 0 (m * esize) = sub B.cells off (m * esize) := by
          simp only [sub, List.drop_zero, List.take_take]
          rw [Nat.min_eq_left hle]
        have hk' : known (sub B.cells off (m * esize)) = true := by
          rw [← e1]
          simp only [known, List.all_eq_true] at hk ⊢
          exact fun x hx => hk x (by simp only [sub, List.drop_zero] at hx ⊢; exact List.mem_of_mem_take hx)
        have := run_loadCells_sub (P := P) hS hB hd (by omega) hk'
        refine ⟨by simp [Builtin.lenOf, S.tr], ?_, sub_length (by omega)⟩
        rw [e1]
        simpa [Builtin.firstCells, S.tr] using this
    · cases hsh
  · simp only [Option.some.injEq, Prod.mk.injEq] at hsh
    obtain ⟨rfl, rfl⟩ := hsh
    exact ⟨by simp [Builtin.lenOf, S.tr], by simp [Builtin.firstCells, S.tr, sub, trs], by simp⟩
  · simp only [Option.some.injEq, Prod.mk.injEq] at hsh
    obtain ⟨rfl, rfl⟩ := hsh
    have : m = 0 := by omega
    subst this
    exact ⟨by simp [Builtin.lenOf, S.tr], by simp [Builtin.firstCells, S.tr, sub, trs, loadCells, loadCellsFrom], by simp⟩
  · cases hsh

theorem known_sub {xs : List S} {o n : Nat} (h : known xs = true) : known (sub xs o n) = true := by
  simp only [known, List.all_eq_true] at h ⊢
  exact fun x hx => h x (List.mem_of_mem_drop (List.mem_of_mem_take hx))

theorem shows_known {ls h : List Blk} {esize : Nat} {s : S} {r : Nat × List S} (hs : shows ls h esize s = some r) : s ≠ .u := by
  rintro rfl; simp [shows] at hs

theorem acts_cpy {T e U : TypeId} {x y : Operand} {x' y' : Opd} {i : TypeInfo} {c : Call} (ho : o.op = .call c) (hc : c.callee = .builtin .copy) (ha : c.args.toList = [x, y]) (hat : c.argTypes.toList = [T, U])
    (hu : P.underlying T = some (.slice e)) (hi : P.info? e = some i) (hx : compX x = some x') (hy : compX y = some y') : Acts P Γ o (.cpy i.size x' y') := by
  have ha' : c.args = #[x, y] := by rw [← ha]
  have hat' : c.argTypes = #[T, U] := by rw [← hat]
  intro σ0 h0 w0 σ t a ls h w K next Q H hT hK hn
  simp only [iwp] at hK
  split at hK
  · rename_i dx sy hqx hqy
    obtain ⟨_, e1⟩ := ev_is hT hx
    obtain ⟨_, e2⟩ := ev_is hT hy
    rw [hqx] at e1; rw [hqy] at e2
    split at hK
    · rename_i n src hsh
      have hyv := e2.eq (by simpa using shows_known hsh)
      simp only [V.tr] at hyv
      split at hK
      · rename_i r off len cap
        have hxv := e1.eq (by simp)
        simp only [V.tr, S.tr] at hxv
        split at hK
        · rename_i B hB
          obtain ⟨⟨hrw, hfit, hkn, htk⟩, hK⟩ := hK
          obtain ⟨l1, _, l3⟩ := shows_run (P := P) H.sim hsh hkn (shows_known hsh) 0 (Nat.zero_le _)
          obtain ⟨_, l2, _⟩ := shows_run (P := P) H.sim hsh hkn (shows_known hsh) (min n len) (Nat.min_le_left _ _)
          have hmle : min n len * i.size ≤ n * i.size := Nat.mul_le_mul_right _ (Nat.min_le_left _ _)
          have hmle' : min n len * i.size ≤ len * i.size := Nat.mul_le_mul_right _ (Nat.min_le_right _ _)
          have hsl : (sub src 0 (min n len * i.size)).length = min n len * i.size := sub_length (by omega)
          obtain ⟨w', hr, H'⟩ := storeCells_run (P := P) r off (sub src 0 (min n len * i.size)) 0 h ls w B H hB hrw (by omega) (known_sub hkn) htk
          simp only [Nat.add_zero] at H'
          have hT' : TRel σ t a.tmps (setH h r { B with cells := put B.cells off (sub src 0 (min n len * i.size)) }).length (setL ls r { B with cells := put B.cells off (sub src 0 (min n len * i.size)) }).length := by
            rw [setH_length, setL_length]; exact hT
          refine acts_of_value (w' := w') (x := .int .i64 (min n len : Nat)) ?_ (hn σ t _ _ _ _ w' H' hT' rfl (.inr rfl) hK)
          have hr' : (storeCells (adr σ r off) (trs σ (sub src 0 (min n len * i.size))).toList 0).run P w = .ok () w' := by
            simpa [trs] using hr
          have e3 : Nat.min n len = min n len := rfl
          simp [execOp, ho, resolve, hc, ha', hat', invoke, builtin, Builtin.copy_, hxv, hyv, run_underlying hu, l1, e3, sizeOf, typeInfo, hi, l2, hr', goInt]
        · exact hK.elim
      · have hxv := e1.eq (by simp)
        simp only [V.tr, S.tr] at hxv
        obtain ⟨hkn, hK⟩ := hK
        obtain ⟨l1, l2, _⟩ := shows_run (P := P) H.sim hsh hkn (shows_known hsh) 0 (Nat.zero_le _)
        refine acts_of_value (w' := w) (x := .int .i64 0) ?_ (hn σ t _ _ _ _ w H hT rfl (.inr rfl) hK)
        have e3 : Nat.min n 0 = 0 := Nat.min_zero n
        simp [execOp, ho, resolve, hc, ha', hat', invoke, builtin, Builtin.copy_, hxv, hyv, run_underlying hu, l1, e3, sizeOf, typeInfo, hi, l2, goInt]
      · exact hK.elim
    · exact hK.elim
  · exact hK.elim

end
end Go.D

/- append: a slice of the function's own grows. -/
namespace Go.D
set_option linter.all false

theorem R.ne_of_names {k : Nat} {r : R} (h : r.names k = false) : r ≠ .l k := by
  rintro rfl; simp [R.names] at h

theorem S.tr_unnamed {σ : Sg} {k : Nat} (x : Nat × Nat) {s : S} (h : s.names k = false) : s.tr (lay σ (.l k) x) = s.tr σ := by
  have hl : ∀ r : R, r.names k = false → lay σ (.l k) x r = σ r := fun r hr => by simp [lay, R.ne_of_names hr]
  cases s with
  | p r o => simp only [S.names] at h; simp only [S.tr, adr, hl r h]
  | sl r o a c => simp only [S.names] at h; simp only [S.tr, adr, hl r h]
  | fn f cs =>
    simp only [S.names, List.any_eq_false] at h
    simp only [S.tr]
    congr 2
    refine List.map_congr_left fun y hy => ?_
    have := h y hy
    simp only [adr, hl y.1 (by simpa using this)]
  | _ => rfl

theorem trs_unnamed {σ : Sg} {k : Nat} (x : Nat × Nat) {xs : List S} (h : xs.any (S.names k) = false) : trs (lay σ (.l k) x) xs = trs σ xs := by
  simp only [List.any_eq_false] at h
  simp only [trs]; congr 1
  exact List.map_congr_left fun y hy => S.tr_unnamed x (by simpa using h y hy)

theorem C.tr_unnamed {σ : Sg} {k : Nat} (x : Nat × Nat) {c : C} (h : c.names k = false) : c.tr (lay σ (.l k) x) = c.tr σ := by
  cases c with
  | s y => exact S.tr_unnamed x h
  | agg xs => simp only [C.tr, trs_unnamed x h]

theorem V.tr_unnamed {σ : Sg} {k : Nat} (x : Nat × Nat) {v : V} (h : v.names k = false) : v.tr (lay σ (.l k) x) = v.tr σ := by
  cases v with
  | s y => exact S.tr_unnamed x h
  | agg xs => simp only [V.tr, trs_unnamed x h]
  | tup cs =>
    simp only [V.names, List.any_eq_false] at h
    simp only [V.tr]; congr 2
    exact List.map_congr_left fun y hy => C.tr_unnamed x (by simpa using h y hy)

theorem TRel.kill {σ : Sg} {t : List V} {tmps : Array Value} {n m : Nat} (h : TRel σ t tmps n m) (k : Nat) (x : Nat × Nat) : TRel (lay σ (.l k) x) (t.map (V.kill k)) tmps n m := by
  refine ⟨by simp [h.size], fun i v hi => ?_⟩
  rw [List.getElem?_map] at hi
  cases hu : t[i]? with
  | none => simp [hu] at hi
  | some u =>
    simp only [hu, Option.map_some, Option.some.injEq] at hi
    obtain ⟨h1, y, h2, h3⟩ := h.at_ i u hu
    subst hi
    unfold V.kill
    split
    · exact ⟨rfl, y, h2, .inl rfl⟩
    · rename_i hn
      refine ⟨h1, y, h2, ?_⟩
      rcases h3 with h3 | h3
      · exact .inl h3
      · exact .inr (by rw [h3, V.tr_unnamed x (by simpa using hn)])

theorem TRel.kill' {σ : Sg} {t : List V} {tmps : Array Value} {n m : Nat} (h : TRel σ t tmps n m) (k : Nat) : TRel σ (t.map (V.kill k)) tmps n m := by
  have := h.kill k (σ (.l k))
  have e : lay σ (.l k) (σ (.l k)) = σ := by funext r; unfold lay; split; (rename_i e; rw [e]); rfl
  rwa [e] at this

/-- A block that stands in a world stands in each that has the same there. -/
theorem OkBlk.move' {σ σ' : Sg} {w w' : World} {r : R} {B : Blk} (h : OkBlk σ w r B) (hr : σ' r = σ r) (htr : ∀ s ∈ B.cells, s.tr σ' = s.tr σ)
    (hs : w.heap.size ≤ w'.heap.size) (hb : B.st ≠ .dead → w'.heap[(σ r).1]? = w.heap[(σ r).1]?) : OkBlk σ' w' r B := by
  unfold OkBlk at *
  have hH : B.st ≠ .dead → Holds σ w r B.cells → Holds σ' w' r B.cells := fun hd hH i s hi hu => by
    have h1 := hH i s hi hu
    rw [adr_congr i hr, htr s (List.mem_of_getElem? hi), cell?_block (w := w) (by exact hb hd)]
    exact h1
  cases hst : B.st with
  | dead => simp only [hst]
  | ro => simp only [hst] at *; rw [hr]; exact ⟨by omega, hH (by simp) h.2⟩
  | rw =>
    simp only [hst] at *
    rw [hr]
    refine ⟨by omega, hH (by simp) h.2.1, h.2.2.1, fun i hi => ?_⟩
    rw [adr_congr i hr, cell?_block (w := w) (by exact hb (by simp)), frozen?_block (w := w) (by exact hb (by simp))]
    exact h.2.2.2 i hi

theorem blk_setl {h ls : List Blk} {k : Nat} {B B' : Blk} (hb : ls[k]? = some B) (r : R) : blk h (ls.set k B') r = if r = .l k then some B' else blk h ls r := by
  cases r with
  | g j => simp [blk]
  | l j =>
    simp only [blk, R.l.injEq, List.getElem?_set]
    by_cases e : k = j
    · subst e
      have : k < ls.length := (List.getElem?_eq_some_iff.1 hb).1
      simp [this]
    · rw [if_neg e, if_neg (Ne.symm e)]

section
variable {σ0 : Sg} {h0 : List Blk} {w0 : World} {σ : Sg} {h ls : List Blk} {w : World}

/-- What is said of a block of the function's own is said otherwise. -/
theorem Inv.swap (H : Inv σ0 h0 w0 σ h ls w) {k : Nat} {B B' : Blk} (hb : ls[k]? = some B) (hst : B.st = .rw) (hst' : B'.st = .rw) (hok : OkBlk σ w (.l k) B') (hv : vals h.length ls.length B'.cells = true) :
    Inv σ0 h0 w0 σ h (ls.set k B') w := by
  refine ⟨⟨?_, ?_, ?_, ?_⟩, H.kept, H.len, H.old, ?_, H.new, H.live⟩
  · intro r X hX
    rw [blk_setl hb] at hX
    split at hX
    · rename_i e; subst e; cases hX; exact hok
    · exact H.sim.ok r X hX
  · intro r1 r2 B1 B2 h1 h2 hne s1 s2
    rw [blk_setl hb] at h1 h2
    split at h1
    · rename_i e1
      rw [if_neg (by rintro e2; exact hne (e1.trans e2.symm))] at h2
      subst e1
      exact H.sim.sep (.l k) r2 B B2 hb h2 hne hst s2
    · split at h2
      · rename_i e2; subst e2
        exact H.sim.sep r1 (.l k) B1 B h1 hb hne s1 (by rw [hst]; simp)
      · exact H.sim.sep r1 r2 B1 B2 h1 h2 hne s1 s2
  · exact H.sim.gval
  · intro X hX
    rw [List.length_set]
    rcases List.mem_or_eq_of_mem_set hX with h1 | h1
    · exact H.sim.lval X h1
    · subst h1; exact hv
  · intro r X hX hs
    rw [blk_setl hb] at hX
    split at hX
    · rename_i e; subst e; exact H.mine (.l k) B hb hst
    · exact H.mine r X hX hs

/-- A block of the function's own is made anew elsewhere. -/
theorem Inv.regrow (H : Inv σ0 h0 w0 σ h ls w) {k : Nat} {B : Blk} (hb : ls[k]? = some B) (_hst : B.st = .rw) (hun : unnamed k ls = true) (cells : List S) (hn : cells.any (S.names k) = false)
    (hv : vals h.length ls.length cells = true) (extra : Array Value) (T : TypeId) :
    Inv σ0 h0 w0 (lay σ (.l k) (w.heap.size, 0)) h (ls.set k ⟨.rw, cells, cells.length + extra.size⟩) (w.alloc (.cells (trs σ cells ++ extra) T)) := by
  have hold : ∀ b, b < w.heap.size → (w.alloc (.cells (trs σ cells ++ extra) T)).heap[b]? = w.heap[b]? := fun b hb => Go.RowKit.Below.heap_alloc _ _ _ hb
  have hlt : ∀ r B, blk h ls r = some B → B.st ≠ .dead → (σ r).1 < w.heap.size := fun r B hb hd => by
    have := H.sim.ok r B hb
    unfold OkBlk at this
    cases hst : B.st with
    | dead => exact absurd hst hd
    | ro => rw [hst] at this; exact this.1
    | rw => rw [hst] at this; exact this.1
  have hsame : ∀ r, r ≠ .l k → lay σ (.l k) (w.heap.size, 0) r = σ r := fun r hr => by simp [lay, hr]
  have htr : ∀ r X, blk h ls r = some X → ∀ s ∈ X.cells, s.tr (lay σ (.l k) (w.heap.size, 0)) = s.tr σ := fun r X hX s hs => by
    refine S.tr_unnamed _ ?_
    cases r with
    | g j =>
      have h1 := H.sim.gval X (List.mem_of_getElem? hX)
      simp only [vals, List.all_eq_true] at h1
      have h2 := h1 s hs
      cases s with
      | p r o => cases r <;> simp [S.names, R.names, S.val, R.val] at h2 ⊢
      | sl r o a c => cases r <;> simp [S.names, R.names, S.val, R.val] at h2 ⊢
      | fn f cs =>
        simp only [S.val, List.all_eq_true] at h2
        simp only [S.names, List.any_eq_false]
        intro y hy
        have := h2 y hy
        obtain ⟨r, o⟩ := y
        cases r <;> simp [R.names, R.val] at this ⊢
      | _ => rfl
    | l j =>
      simp only [unnamed, List.all_eq_true] at hun
      have := hun X (List.mem_of_getElem? hX) s hs
      simpa using this
  refine ⟨⟨?_, ?_, ?_, ?_⟩, ⟨⟨?_, ?_, ?_, ?_⟩, ?_⟩, ?_, ?_, ?_, ?_, ?_⟩
  · intro r X hX
    rw [blk_setl hb] at hX
    split at hX
    · rename_i e
      subst e
      cases hX
      unfold OkBlk
      simp only
      have hadr : ∀ i, adr (lay σ (.l k) (w.heap.size, 0)) (.l k) i = ⟨w.heap.size, i, none⟩ := fun i => by simp [adr, lay]
      have hsz : (trs σ cells).size = cells.length := by simp [trs]
      refine ⟨by simp [lay], fun i s hi _ => ?_, by omega, fun i hi => ?_⟩
      · rw [hadr, World.cell?_alloc_new]
        have hil : i < cells.length := (List.getElem?_eq_some_iff.1 hi).1
        have hns : s.names k = false := by
          simp only [List.any_eq_false] at hn; simpa using hn s (List.mem_of_getElem? hi)
        rw [Array.getElem?_append_left (by omega), S.tr_unnamed _ hns]
        simp [trs, hi]
      · rw [hadr, World.cell?_alloc_new, World.frozen?_alloc_new]
        refine ⟨?_, rfl⟩
        rw [Array.getElem?_eq_getElem (by simp; omega)]; rfl
    · rename_i e
      exact (H.sim.ok r X hX).move' (hsame r e) (htr r X hX) (by simp) (fun hd => hold _ (hlt r X hX hd))
  · intro r1 r2 B1 B2 hb1 hb2 hne hs1 hs2
    rw [blk_setl hb] at hb1 hb2
    split at hb1
    · rename_i e1
      rw [if_neg (by rintro e2; exact hne (e1.trans e2.symm))] at hb2
      subst e1
      rw [hsame r2 (Ne.symm hne)]
      have := hlt r2 B2 hb2 hs2
      simp only [lay, if_true]; omega
    · rename_i e1
      rw [hsame r1 e1]
      have := hlt r1 B1 hb1 (by rw [hs1]; simp)
      split at hb2
      · rename_i e2; subst e2; simp only [lay, if_true]; omega
      · rename_i e2
        rw [hsame r2 e2]
        exact H.sim.sep r1 r2 B1 B2 hb1 hb2 hne hs1 hs2
  · exact H.sim.gval
  · intro X hX
    rw [List.length_set]
    rcases List.mem_or_eq_of_mem_set hX with h1 | h1
    · exact H.sim.lval X h1
    · subst h1; exact hv
  · exact H.kept.same.os
  · exact H.kept.same.tape
  · exact H.kept.same.output
  · have := H.kept.same.size; simp; omega
  · intro b hlt' hno
    rw [hold b (by have := H.kept.same.size; omega)]
    exact H.kept.keep b hlt' hno
  · exact H.len
  · intro j hj; rw [hsame (.g j) (by simp)]; exact H.old j hj
  · intro r X hX hs
    rw [blk_setl hb] at hX
    split at hX
    · rename_i e; subst e; right; simp only [lay, if_true]; exact H.kept.same.size
    · rename_i e; rw [hsame r e]; exact H.mine r X hX hs
  · intro j hj hj'; rw [hsame (.g j) (by simp)]; exact H.new j hj hj'
  · exact H.live

end

theorem put_append (xs ys vs : List S) (h : vs.length = ys.length) : put (xs ++ ys) xs.length vs = xs ++ vs := by
  induction vs generalizing xs ys with
  | nil => simp only [List.length_nil] at h; rw [List.eq_nil_of_length_eq_zero h.symm]; rfl
  | cons v vs ih =>
    cases ys with
    | nil => simp at h
    | cons y ys =>
      simp only [put]
      have e : (xs ++ y :: ys).set xs.length v = (xs ++ [v]) ++ ys := by simp [List.set_append]
      rw [e, show xs.length + 1 = (xs ++ [v]).length by simp, ih (xs ++ [v]) ys (by simpa using h)]
      simp

section
variable {P : Program} {o : Oper} {Γ : FuncId → FSpec}

theorem append_in {T U e f : TypeId} {i : TypeInfo} (hT : P.underlying T = some (.slice e)) (hU : P.underlying U = some (.slice f)) (hi : P.info? e = some i) (ty : TypeId) (a : Addr) (sLen sCap n : Nat) (x : Value) (new : Array Value) (w w' : World)
    (hl : (Builtin.lenOf x).run P w = .ok n w) (hf : (Builtin.firstCells i.size n x).run P w = .ok new w) (hfit : sLen + n ≤ sCap) (hs : (storeCells (a.add (sLen * i.size)) new.toList).run P w = .ok () w') :
    (Builtin.append_ #[T, U] ty #[.slice (some a) sLen sCap, x]).run P w = .ok (.slice (some a) (sLen + n) sCap) w' := by
  simp [Builtin.append_, run_underlying hT, run_underlying hU, sizeOf, typeInfo, hi, hl, hf, hfit, hs]

theorem append_grow {T U e f : TypeId} {i : TypeInfo} {z : Value} (hT : P.underlying T = some (.slice e)) (hU : P.underlying U = some (.slice f)) (hi : P.info? e = some i) (hz : i.zero = some z) (hb : i.bytes ≠ 0) (ty : TypeId) (a : Option Addr) (sLen sCap n : Nat) (x : Value) (old new : Array Value) (w : World)
    (hl : (Builtin.lenOf x).run P w = .ok n w) (hf : ∀ w', w'.heap = w.heap → (Builtin.firstCells i.size n x).run P w' = .ok new w') (ho : ∀ w', w'.heap = w.heap → (Builtin.firstCells i.size sLen (.slice a sLen sCap)).run P w' = .ok old w')
    (hfit : ¬ sLen + n ≤ sCap) (hsz : (sLen + n) * i.bytes ≤ 2 ^ 47) :
    ∃ c, sLen + n ≤ c ∧ (Builtin.append_ #[T, U] ty #[.slice a sLen sCap, x]).run P w =
      .ok (.slice (some ⟨w.heap.size, 0, none⟩) (sLen + n) c) ({ w with drawn := w.drawn + 1 }.alloc (.cells (old ++ new ++ Builtin.zeroCells z.cells (c - (sLen + n))) e)) := by
  have hg := growslice_fits (need := sLen + n) (old := sCap) (bytes := i.bytes) (by omega) (by simpa using hsz)
  have hg' : ¬ (2 ^ 48 < Builtin.nextslicecap (sLen + n) sCap * i.bytes) := by simpa using hg
  refine ⟨(sLen + n) + w.tape w.drawn (.appendCap (sLen + n) sCap e) % (2 ^ 63 - (sLen + n)), by omega, ?_⟩
  have h1 := ho w.drew rfl
  have h2 := hf w.drew rfl
  simp only [Builtin.append_, List.getElem?_toArray, List.getElem?_cons_zero, List.getElem?_cons_succ, Sem.run_bind, run_underlying hT, run_underlying hU, Result.andThen_ok, sizeOf, typeInfo, run_program, hi, Sem.run_pure, Bool.false_eq_true, if_false, hl, if_neg hfit,
    Bool.not_false, if_true]
  simp [hb, hg', Question.forced, Question.cut, h1, h2, zeroValue, typeInfo, hi, hz, newRow]

theorem zeroCells_size (z : Array Value) (n : Nat) : (Builtin.zeroCells z n).size = n * z.size := by simp [Builtin.zeroCells]

theorem acts_app {T U e f : TypeId} {x y : Operand} {x' y' : Opd} {i : TypeInfo} {z : List S} {c : Call} (ho : o.op = .call c) (hc : c.callee = .builtin .append) (ha : c.args.toList = [x, y]) (hat : c.argTypes.toList = [T, U])
    (hTt : P.underlying T = some (.slice e)) (hU : P.underlying U = some (.slice f)) (hi : P.info? e = some i) (hz : zeroOf P e = some z) (hb : i.bytes ≠ 0) (hx : compX x = some x') (hy : compX y = some y') : Acts P Γ o (.app i.size i.bytes x' y') := by
  have ha' : c.args = #[x, y] := by rw [← ha]
  have hat' : c.argTypes = #[T, U] := by rw [← hat]
  intro σ0 h0 w0 σ t a ls h w K next Q H hT hK hn
  simp only [iwp] at hK
  split at hK
  · rename_i bx sy hqx hqy
    obtain ⟨_, e1⟩ := ev_is hT hx
    obtain ⟨_, e2⟩ := ev_is hT hy
    rw [hqx] at e1; rw [hqy] at e2
    split at hK
    · rename_i n new hsh
      obtain ⟨⟨hkn, hes⟩, hK⟩ := hK
      have hyv := e2.eq (by simpa using shows_known hsh)
      simp only [V.tr] at hyv
      obtain ⟨k0, v, hk0, hiz, hcells, hvz, _, hzl⟩ := zeroOf_run hz σ
      have hki : k0 = i := by rw [hk0] at hi; cases hi; rfl
      rw [hki] at hk0 hiz hzl
      clear hki
      have hall : ∀ w', w'.heap = w.heap → Sim σ h ls w' := fun w' hw' =>
        ⟨fun r B hB => (H.sim.ok r B hB).move rfl (n := h.length) (m := ls.length) (fun _ _ => rfl) (H.sim.bval hB) (by rw [hw']; exact Nat.le_refl _) (fun _ => by rw [hw']), H.sim.sep, H.sim.gval, H.sim.lval⟩
      obtain ⟨l1, _, l3⟩ := shows_run (P := P) H.sim hsh hkn (shows_known hsh) 0 (Nat.zero_le _)
      have hnew : sub new 0 (n * i.size) = new := sub_all l3
      have l2 : ∀ w', w'.heap = w.heap → (Builtin.firstCells i.size n (sy.tr σ)).run P w' = .ok (trs σ new) w' := fun w' hw' => by
        have := (shows_run (P := P) (hall w' hw') hsh hkn (shows_known hsh) n (Nat.le_refl _)).2.1
        rwa [hnew] at this
      split at hK
      · -- a nil slice
        obtain ⟨⟨hsz, hn0, hvn⟩, hK⟩ := hK
        have hxv := e1.eq (by simp)
        simp only [V.tr, S.tr] at hxv
        obtain ⟨cc, hcc, hrun⟩ := append_grow (P := P) hTt hU hi hiz hb o.type none 0 0 n (sy.tr σ) #[] (trs σ new) w l1 l2 (fun w' _ => by simp [Builtin.firstCells]) (by omega) (by simpa using hsz)
        simp only [Nat.zero_add, Array.empty_append] at hcc hrun
        obtain ⟨σ', H', hT', hadr⟩ := new_own (H.drawn (w.drawn + 1)) hT new e (Builtin.zeroCells v.cells (cc - n)) hvn
        have hroom : new.length + (Builtin.zeroCells v.cells (cc - n)).size = cc * i.size := by
          rw [zeroCells_size, hcells, trs_size, hzl, l3, ← Nat.add_mul]
          congr 1; omega
        rw [hroom] at H' hT'
        refine acts_of_value (x := .slice (some ⟨w.heap.size, 0, none⟩) n cc) ?_ (hn σ' t _ _ _ h _ H' hT' ?_ (.inr ?_) (hK cc hcc))
        · simp [execOp, ho, resolve, hc, ha', hat', invoke, builtin, hxv, hyv, hrun]
        · simp [V.val, S.val, R.val]
        · simp [V.tr, S.tr, hadr]
      · -- a slice of the function's own
        rename_i k len cap
        have hxv := e1.eq (by simp)
        simp only [V.tr, S.tr] at hxv
        split at hK
        · rename_i B hB
          obtain ⟨⟨hrw, hlen, hroom, hsz, hkB, hun, hnn, hvn⟩, hK⟩ := hK
          have hklt : k < ls.length := (List.getElem?_eq_some_iff.1 hB).1
          have hBok := H.sim.ok (.l k) B hB
          unfold OkBlk at hBok
          rw [hrw] at hBok
          have hvB : vals h.length ls.length B.cells = true := H.sim.lval B (List.mem_of_getElem? hB)
          have hvall : vals h.length ls.length (B.cells ++ new) = true := by
            simp only [vals, List.all_append, Bool.and_eq_true]; exact ⟨hvB, hvn⟩
          have hlall : (B.cells ++ new).length = (len + n) * i.size := by rw [List.length_append, hlen, l3, ← Nat.add_mul]
          by_cases hfit : len + n ≤ cap
          · -- it lies in its place
            have hfit' : (len + n) * i.size ≤ cap * i.size := Nat.mul_le_mul_right _ hfit
            have H1 : Inv σ0 h0 w0 σ h (ls.set k ⟨.rw, B.cells ++ List.replicate new.length .u, B.room⟩) w := by
              refine H.swap hB hrw rfl ?_ ?_
              · unfold OkBlk
                simp only
                refine ⟨hBok.1, fun j s hj hu => ?_, by simp; rw [← List.length_append, hlall]; omega, hBok.2.2.2⟩
                by_cases hjl : j < B.cells.length
                · rw [List.getElem?_append_left hjl] at hj
                  exact hBok.2.1 j s hj hu
                · rw [List.getElem?_append_right (by omega)] at hj
                  rw [List.getElem?_replicate] at hj
                  split at hj
                  · cases hj; exact absurd rfl hu
                  · cases hj
              · simp only [vals, List.all_append, Bool.and_eq_true]
                exact ⟨hvB, by simp [List.all_replicate, S.val]⟩
            have hb1 : blk h (ls.set k ⟨.rw, B.cells ++ List.replicate new.length .u, B.room⟩) (.l k) = some ⟨.rw, B.cells ++ List.replicate new.length .u, B.room⟩ := by
              rw [blk_setl hB, if_pos rfl]
            obtain ⟨w', hr, H2⟩ := storeCells_run (P := P) (.l k) (len * i.size) new 0 h _ w _ H1 hb1 rfl (by simp; omega) hkn (by
              rw [List.length_set]; simp only [List.all_eq_true]; intro s hs
              simp only [vals, List.all_eq_true] at hvn
              exact hvn s hs)
            simp only [Nat.add_zero, setH, setL, List.set_set] at H2
            rw [← hlen, put_append _ _ _ (by simp)] at H2
            have hB2 : (ls.set k ⟨.rw, B.cells ++ new, B.room⟩)[k]? = some ⟨.rw, B.cells ++ new, B.room⟩ := by simp [hklt]
            have H3 : Inv σ0 h0 w0 σ h (ls.set k ⟨.rw, B.cells ++ new, cap * i.size⟩) w' := by
              have h4 := H2.sim.ok (.l k) _ (by simpa [blk] using hB2)
              unfold OkBlk at h4
              simp only at h4
              have := H2.swap (B' := ⟨.rw, B.cells ++ new, cap * i.size⟩) hB2 rfl rfl (by
                unfold OkBlk
                simp only
                refine ⟨h4.1, h4.2.1, by rw [hlall]; exact hfit', fun j hj => h4.2.2.2 j (by omega)⟩) (by rw [List.length_set]; exact hvall)
              simpa [List.set_set] using this
            have hadr : (adr σ (.l k) 0).add (len * i.size) = adr σ (.l k) (len * i.size) := by rw [adr_add, Nat.zero_add]
            have hs : (storeCells ((adr σ (.l k) 0).add (len * i.size)) (trs σ new).toList).run P w = .ok () w' := by
              rw [hadr]; simpa [trs] using hr
            have hrun := append_in (P := P) hTt hU hi o.type (adr σ (.l k) 0) len cap n (sy.tr σ) (trs σ new) w w' l1 (l2 w rfl) hfit hs
            refine acts_of_value (x := .slice (some (adr σ (.l k) 0)) (len + n) cap) ?_ (hn σ _ _ _ _ h w' H3 ?_ ?_ (.inr rfl) (hK cap hfit))
            · simp [execOp, ho, resolve, hc, ha', hat', invoke, builtin, hxv, hyv, hrun]
            · rw [List.length_set]; exact hT.kill' k
            · simp [V.val, S.val, R.val, hklt]
          · -- it is made anew
            have hold : ∀ w', w'.heap = w.heap → (Builtin.firstCells i.size len (.slice (some (adr σ (.l k) 0)) len cap)).run P w' = .ok (trs σ B.cells) w' := fun w' hw' => by
              have h5 := run_loadCells_sub (P := P) (hall w' hw') (r := .l k) hB (by rw [hrw]; simp) (o := 0) (n := len * i.size) (by omega) (by rw [sub_all hlen]; exact hkB)
              rw [sub_all hlen] at h5
              simpa [Builtin.firstCells] using h5
            obtain ⟨cc, hcc, hrun⟩ := append_grow (P := P) hTt hU hi hiz hb o.type (some (adr σ (.l k) 0)) len cap n (sy.tr σ) (trs σ B.cells) (trs σ new) w l1 l2 hold hfit hsz
            have hnall : (B.cells ++ new).any (S.names k) = false := by
              simp only [unnamed, List.all_eq_true] at hun
              simp only [List.all_eq_true] at hnn
              simp only [List.any_eq_false, List.mem_append]
              rintro s (hs | hs)
              · simpa using hun B (List.mem_of_getElem? hB) s hs
              · simpa using hnn s hs
            have H' := (H.drawn (w.drawn + 1)).regrow hB hrw hun (B.cells ++ new) hnall hvall (Builtin.zeroCells v.cells (cc - (len + n))) e
            have hroom' : (B.cells ++ new).length + (Builtin.zeroCells v.cells (cc - (len + n))).size = cc * i.size := by
              rw [zeroCells_size, hcells, trs_size, hzl, hlall, ← Nat.add_mul]
              congr 1; omega
            rw [hroom'] at H'
            have htrs : trs σ (B.cells ++ new) = trs σ B.cells ++ trs σ new := by simp [trs]
            rw [htrs] at H'
            refine acts_of_value (x := .slice (some ⟨w.heap.size, 0, none⟩) (len + n) cc) ?_ (hn _ _ _ _ _ h _ H' ?_ ?_ (.inr ?_) (hK cc hcc))
            · simp [execOp, ho, resolve, hc, ha', hat', invoke, builtin, hxv, hyv, hrun]
            · rw [List.length_set]; exact hT.kill k _
            · simp [V.val, S.val, R.val, hklt]
            · simp [V.tr, S.tr, adr, lay]
        · exact hK.elim
      · exact hK.elim
    · exact hK.elim
  · exact hK.elim

end
end Go.D

/- Calls: what a callee does to the shared blocks, seen from its caller. -/
namespace Go.D
set_option linter.all false

/-- A function of the program that has a body. -/
def FnOk (P : Program) (f : FuncId) : Prop := ∃ fn, P.funcs[f]? = some fn ∧ fn.body.isSome = true ∧ (fn.name == "runtime.NumGoroutine") = false

/-- A function does what its spec asks for. -/
def Snd (P : Program) (f : FuncId) (S : FSpec) : Prop :=
  ∀ (σ : Sg) (h : List Blk) (w : World) (args : List V) (K : V → List Blk → Prop), Sim σ h [] w → args.all (V.val h.length 0) = true → args.all V.known = true → S args h K →
    Calls P f (args.map (V.tr σ)).toArray w fun e w' => ∃ (v : V) (h' : List Blk) (σ' : Sg), e = .returned (v.tr σ') ∧ v.known = true ∧ v.val h'.length 0 = true ∧ Inv σ h w σ' h' [] w' ∧ K v h'

/-- Each of the specs that are at hand is one that its function meets. -/
def SndΓ (P : Program) (Γ : FuncId → FSpec) : Prop := ∀ f args h K, Γ f args h K → FnOk P f ∧ Snd P f (Γ f)

theorem Sim.glob {σ : Sg} {h ls : List Blk} {w : World} (H : Sim σ h ls w) : Sim σ h [] w := by
  refine ⟨fun r B hb => ?_, fun r r' B B' hb hb' => ?_, H.gval, fun B hB => by cases hB⟩
  · cases r with
    | g k => exact H.ok (.g k) B hb
    | l k => simp [blk] at hb
  · cases r with
    | g k =>
      cases r' with
      | g k' => exact H.sep (.g k) (.g k') B B' hb hb'
      | l k' => simp [blk] at hb'
    | l k => simp [blk] at hb

theorem R.val_noL {n m : Nat} {r : R} (h : r.val n m = true) (h' : r.noL = true) : r.val n 0 = true := by
  cases r with
  | g k => exact h
  | l k => simp [R.noL] at h'
theorem S.val_noL {n m : Nat} {s : S} (h : s.val n m = true) (h' : s.noL = true) : s.val n 0 = true := by
  cases s with
  | p r o => exact R.val_noL h h'
  | sl r o a c => exact R.val_noL h h'
  | fn f cs => simp only [S.val, S.noL, List.all_eq_true] at *; exact fun x hx => R.val_noL (h x hx) (h' x hx)
  | _ => rfl
theorem vals_noL {n m : Nat} {xs : List S} (h : vals n m xs = true) (h' : xs.all S.noL = true) : vals n 0 xs = true := by
  simp only [vals, List.all_eq_true] at *; exact fun x hx => S.val_noL (h x hx) (h' x hx)
theorem C.val_noL {n m : Nat} {c : C} (h : c.val n m = true) (h' : c.noL = true) : c.val n 0 = true := by
  cases c with
  | s x => exact S.val_noL h h'
  | agg xs => exact vals_noL h h'
theorem V.val_noL {n m : Nat} {v : V} (h : v.val n m = true) (h' : v.noL = true) : v.val n 0 = true := by
  cases v with
  | s x => exact S.val_noL h h'
  | agg xs => exact vals_noL h h'
  | tup cs => simp only [V.val, V.noL, List.all_eq_true] at *; exact fun x hx => C.val_noL (h x hx) (h' x hx)

/-- The shared blocks as the callee left them, the own ones as they were. -/
def mix (σ σ1 : Sg) : Sg := fun r => match r with
  | .g k => σ1 (.g k)
  | .l k => σ (.l k)

theorem mix_agree0 (σ σ1 : Sg) (n : Nat) : Agree n 0 σ1 (mix σ σ1) := by
  intro r hr
  cases r with
  | g k => rfl
  | l k => simp [R.val] at hr

section
variable {σ0 : Sg} {h0 : List Blk} {w0 : World} {σ : Sg} {h ls : List Blk} {w : World} {σ1 : Sg} {h1 : List Blk} {w1 : World}

theorem mix_agree (H1 : Inv σ h w σ1 h1 [] w1) (m : Nat) : Agree h.length m σ (mix σ σ1) := by
  intro r hr
  cases r with
  | g k => exact H1.old k (by simpa [R.val] using hr)
  | l k => rfl

theorem Inv.call (H : Inv σ0 h0 w0 σ h ls w) (H1 : Inv σ h w σ1 h1 [] w1) : Inv σ0 h0 w0 (mix σ σ1) h1 ls w1 := by
  have hold : ∀ k, k < h.length → mix σ σ1 (.g k) = σ (.g k) := fun k hk => H1.old k hk
  have hlb : ∀ k B, ls[k]? = some B → B.st ≠ .dead → (σ (.l k)).1 < w.heap.size := fun k B hb hd => by
    have := H.sim.ok (.l k) B hb
    unfold OkBlk at this
    cases hst : B.st with
    | dead => exact absurd hst hd
    | ro => rw [hst] at this; exact this.1
    | rw => rw [hst] at this; exact this.1
  have hkeep : ∀ k B, ls[k]? = some B → B.st ≠ .dead → w1.heap[(σ (.l k)).1]? = w.heap[(σ (.l k)).1]? := fun k B hb hd => by
    refine H1.kept.keep _ (hlb k B hb hd) (fun j B' hj hrw => ?_)
    exact H.sim.sep (.g j) (.l k) B' B hj hb (by simp) hrw hd
  refine ⟨⟨?_, ?_, ?_, ?_⟩, ⟨H.kept.same.trans H1.kept.same, ?_⟩, Nat.le_trans H.len H1.len, ?_, ?_, ?_, ?_⟩
  · intro r B hb
    cases r with
    | g k =>
      refine (H1.sim.ok (.g k) B hb).move (n := h1.length) (m := 0) rfl (mix_agree0 σ σ1 _) (H1.sim.gval B (List.mem_of_getElem? hb)) (Nat.le_refl _) (fun _ => rfl)
    | l k =>
      refine (H.sim.ok (.l k) B hb).move (n := h.length) (m := ls.length) rfl (mix_agree H1 _) (H.sim.lval B (List.mem_of_getElem? hb)) H1.kept.same.size (hkeep k B hb)
  · intro r r' B B' hb hb' hne hst hd
    cases r with
    | g k =>
      cases r' with
      | g k' => exact H1.sim.sep (.g k) (.g k') B B' hb hb' hne hst hd
      | l k' =>
        have hl := hlb k' B' hb' hd
        show (σ1 (.g k)).1 ≠ (σ (.l k')).1
        rcases H1.mine (.g k) B hb hst with ⟨j, B0, e, hj, hB0⟩ | hge
        · cases e
          have hjl : k < h.length := (List.getElem?_eq_some_iff.1 hj).1
          rw [H1.old k hjl]
          exact H.sim.sep (.g k) (.l k') B0 B' hj hb' hne hB0 hd
        · omega
    | l k =>
      cases r' with
      | g k' =>
        have hl := hlb k B hb (by rw [hst]; simp)
        show (σ (.l k)).1 ≠ (σ1 (.g k')).1
        by_cases hk' : k' < h.length
        · obtain ⟨B0, hB0⟩ : ∃ B0, h[k']? = some B0 := ⟨_, List.getElem?_eq_getElem hk'⟩
          rw [H1.old k' hk']
          exact H.sim.sep (.l k) (.g k') B B0 hb hB0 hne hst (H1.live k' B0 B' hB0 hb' hd)
        · have hk1 : k' < h1.length := (List.getElem?_eq_some_iff.1 hb').1
          have := H1.new k' (by omega) hk1
          omega
      | l k' => exact H.sim.sep (.l k) (.l k') B B' hb hb' hne hst hd
  · exact H1.sim.gval
  · exact fun B hB => vals_mono H1.len (Nat.le_refl _) (H.sim.lval B hB)
  · intro b hlt hno
    rw [H1.kept.keep b (by have := H.kept.same.size; omega) (fun k B hk hrw => (H.outside (r := .g k) hk hrw hlt hno).symm)]
    exact H.kept.keep b hlt hno
  · intro k hk; rw [hold k (by have := H.len; omega)]; exact H.old k hk
  · intro r B hb hst
    cases r with
    | g k =>
      rcases H1.mine (.g k) B hb hst with ⟨j, B0, e, hj, hB0⟩ | hge
      · cases e
        have hjl : k < h.length := (List.getElem?_eq_some_iff.1 hj).1
        rcases H.mine (.g k) B0 hj hB0 with h2 | h2
        · exact .inl h2
        · right; rw [hold k hjl]; exact h2
      · right; have := H.kept.same.size; show w0.heap.size ≤ (σ1 (.g k)).1; omega
    | l k => exact H.mine (.l k) B hb hst
  · intro k hk hk'
    by_cases hkh : k < h.length
    · rw [hold k hkh]; exact H.new k hk hkh
    · have := H1.new k (by omega) hk'
      have := H.kept.same.size
      show w0.heap.size ≤ (σ1 (.g k)).1
      omega
  · intro k B0 B hk0 hk hd
    have hk0l : k < h0.length := (List.getElem?_eq_some_iff.1 hk0).1
    obtain ⟨Bm, hBm⟩ : ∃ Bm, h[k]? = some Bm := ⟨_, List.getElem?_eq_getElem (by have := H.len; omega)⟩
    exact H.live k B0 Bm hk0 hBm (H1.live k Bm B hBm hk hd)

/-! ### lending -/
def lendS (σ : Sg) (n : Nat) : Sg := fun r => match r with
  | .g k => if k < n then σ (.g k) else σ (.l (k - n))
  | .l k => σ (.l k)

theorem lendS_lend {n m : Nat} {r : R} (hv : r.val n m = true) : lendS σ n (r.lend n) = σ r := by
  cases r with
  | g k => simp only [R.val, decide_eq_true_eq] at hv; simp [R.lend, lendS, hv]
  | l k => simp only [R.lend, lendS, if_neg (by omega : ¬ n + k < n)]; congr 2; omega

theorem S.tr_ren {ρ : R → R} {τ : Sg} {s : S} (hr : ∀ r, (∃ o, s = .p r o) ∨ (∃ o a c, s = .sl r o a c) ∨ (∃ f cs, s = .fn f cs ∧ ∃ o, (r, o) ∈ cs) → τ (ρ r) = σ r) : (s.ren ρ).tr τ = s.tr σ := by
  cases s with
  | p r o => simp only [S.ren, S.tr, adr, hr r (.inl ⟨o, rfl⟩)]
  | sl r o a c => simp only [S.ren, S.tr, adr, hr r (.inr (.inl ⟨o, a, c, rfl⟩))]
  | fn f cs =>
    simp only [S.ren, S.tr, List.map_map]
    congr 2
    refine List.map_congr_left fun x hx => ?_
    simp only [Function.comp, adr, hr x.1 (.inr (.inr ⟨f, cs, rfl, x.2, hx⟩))]
  | _ => rfl

/-- A renaming that keeps the place of every valid reference keeps the value. -/
def Keeps (σ τ : Sg) (ρ : R → R) (n m : Nat) : Prop := ∀ r, r.val n m = true → τ (ρ r) = σ r

theorem S.tr_keeps {τ : Sg} {ρ : R → R} {n m : Nat} (hk : Keeps σ τ ρ n m) {s : S} (hv : s.val n m = true) : (s.ren ρ).tr τ = s.tr σ := by
  refine S.tr_ren (fun r hr => hk r ?_)
  rcases hr with ⟨o, rfl⟩ | ⟨o, a, c, rfl⟩ | ⟨f, cs, rfl, o, ho⟩
  · exact hv
  · exact hv
  · simp only [S.val, List.all_eq_true] at hv; exact hv _ ho
theorem trs_keeps {τ : Sg} {ρ : R → R} {n m : Nat} (hk : Keeps σ τ ρ n m) {xs : List S} (hv : vals n m xs = true) : trs τ (xs.map (S.ren ρ)) = trs σ xs := by
  simp only [vals, List.all_eq_true] at hv
  simp only [trs, List.map_map]; congr 1
  exact List.map_congr_left fun x hx => S.tr_keeps hk (hv x hx)
theorem C.tr_keeps {τ : Sg} {ρ : R → R} {n m : Nat} (hk : Keeps σ τ ρ n m) {c : C} (hv : c.val n m = true) : (c.ren ρ).tr τ = c.tr σ := by
  cases c with
  | s x => exact S.tr_keeps hk hv
  | agg xs => simp only [C.ren, C.tr, trs_keeps hk hv]
theorem V.tr_keeps {τ : Sg} {ρ : R → R} {n m : Nat} (hk : Keeps σ τ ρ n m) {v : V} (hv : v.val n m = true) : (v.ren ρ).tr τ = v.tr σ := by
  cases v with
  | s x => exact S.tr_keeps hk hv
  | agg xs => simp only [V.ren, V.tr, trs_keeps hk hv]
  | tup cs =>
    simp only [V.val, List.all_eq_true] at hv
    simp only [V.ren, V.tr, List.map_map]; congr 2
    exact List.map_congr_left fun x hx => C.tr_keeps hk (hv x hx)

/-- A renaming that takes valid references to valid ones. -/
def Vals (ρ : R → R) (n m n' m' : Nat) : Prop := ∀ r : R, r.val n m = true → (ρ r).val n' m' = true
theorem S.val_ren {ρ : R → R} {n m n' m' : Nat} (hk : Vals ρ n m n' m') {s : S} (hv : s.val n m = true) : (s.ren ρ).val n' m' = true := by
  cases s with
  | p r o => exact hk r hv
  | sl r o a c => exact hk r hv
  | fn f cs => simp only [S.ren, S.val, List.all_map, List.all_eq_true] at *; exact fun x hx => hk x.1 (hv x hx)
  | _ => rfl
theorem vals_ren {ρ : R → R} {n m n' m' : Nat} (hk : Vals ρ n m n' m') {xs : List S} (hv : vals n m xs = true) : vals n' m' (xs.map (S.ren ρ)) = true := by
  simp only [vals, List.all_map, List.all_eq_true] at *; exact fun x hx => S.val_ren hk (hv x hx)
theorem C.val_ren {ρ : R → R} {n m n' m' : Nat} (hk : Vals ρ n m n' m') {c : C} (hv : c.val n m = true) : (c.ren ρ).val n' m' = true := by
  cases c with
  | s x => exact S.val_ren hk hv
  | agg xs => exact vals_ren hk hv
theorem V.val_ren {ρ : R → R} {n m n' m' : Nat} (hk : Vals ρ n m n' m') {v : V} (hv : v.val n m = true) : (v.ren ρ).val n' m' = true := by
  cases v with
  | s x => exact S.val_ren hk hv
  | agg xs => exact vals_ren hk hv
  | tup cs => simp only [V.ren, V.val, List.all_map, List.all_eq_true] at *; exact fun x hx => C.val_ren hk (hv x hx)

theorem lend_keeps (n m : Nat) : Keeps σ (lendS σ n) (R.lend n) n m := fun _ hr => lendS_lend hr
theorem lend_vals (n m : Nat) : Vals (R.lend n) n m (n + m) 0 := by
  intro r hr
  cases r <;> simp only [R.val, R.lend, decide_eq_true_eq] at * <;> omega

/-- A block said in another placing. -/
theorem OkBlk.ren {τ : Sg} {r r' : R} {B : Blk} {ρ : R → R} (h : OkBlk σ w r B) (hr : τ r' = σ r) (htr : ∀ s ∈ B.cells, (s.ren ρ).tr τ = s.tr σ) : OkBlk τ w r' (B.ren ρ) := by
  unfold OkBlk at *
  have hadr : ∀ i, adr τ r' i = adr σ r i := fun i => by simp [adr, hr]
  have hH : Holds σ w r B.cells → Holds τ w r' (B.cells.map (S.ren ρ)) := fun hH i s hi hu => by
    rw [List.getElem?_map] at hi
    cases hs : B.cells[i]? with
    | none => simp [hs] at hi
    | some s0 =>
      simp only [hs, Option.map_some, Option.some.injEq] at hi
      subst hi
      rw [hadr, htr s0 (List.mem_of_getElem? hs)]
      exact hH i s0 hs (by rintro rfl; exact hu rfl)
  cases hst : B.st with
  | dead => simp only [Blk.ren, hst]
  | ro => simp only [Blk.ren, hst] at *; rw [hr]; exact ⟨h.1, hH h.2⟩
  | rw =>
    simp only [Blk.ren, hst] at *
    rw [hr]
    refine ⟨h.1, hH h.2.1, by simpa using h.2.2.1, fun i hi => ?_⟩
    rw [hadr]; exact h.2.2.2 i hi

theorem Sim.lend (H : Sim σ h ls w) : Sim (lendS σ h.length) (h ++ ls.map (Blk.ren (R.lend h.length))) [] w := by
  have hlen : (h ++ ls.map (Blk.ren (R.lend h.length))).length = h.length + ls.length := by simp
  have hget : ∀ k B, (h ++ ls.map (Blk.ren (R.lend h.length)))[k]? = some B → (k < h.length ∧ h[k]? = some B) ∨ (h.length ≤ k ∧ ∃ B0, ls[k - h.length]? = some B0 ∧ B = B0.ren (R.lend h.length)) := fun k B hb => by
    by_cases hk : k < h.length
    · rw [List.getElem?_append_left hk] at hb; exact .inl ⟨hk, hb⟩
    · rw [List.getElem?_append_right (by omega), List.getElem?_map] at hb
      cases hB : ls[k - h.length]? with
      | none => simp [hB] at hb
      | some B0 => simp only [hB, Option.map_some, Option.some.injEq] at hb; exact .inr ⟨by omega, B0, rfl, hb.symm⟩
  refine ⟨fun r B hb => ?_, fun r r' B B' hb hb' hne hst hd => ?_, fun B hB => ?_, fun B hB => by cases hB⟩
  · cases r with
    | l k => simp [blk] at hb
    | g k =>
      rcases hget k B hb with ⟨hk, hb2⟩ | ⟨hk, B0, hb2, rfl⟩
      · have hv := H.gval B (List.mem_of_getElem? hb2)
        refine (H.ok (.g k) B hb2).move (n := h.length) (m := 0) (by simp [lendS, hk]) ?_ hv (Nat.le_refl _) (fun _ => rfl)
        intro r hr
        cases r with
        | g j => simp only [R.val, decide_eq_true_eq] at hr; simp [lendS, hr]
        | l j => simp [R.val] at hr
      · have hv := H.lval B0 (List.mem_of_getElem? hb2)
        refine (H.ok (.l (k - h.length)) B0 hb2).ren (by simp only [lendS, if_neg (by omega : ¬ k < h.length)]) (fun s hs => ?_)
        simp only [vals, List.all_eq_true] at hv
        exact S.tr_keeps (lend_keeps _ _) (hv s hs)
  · cases r with
    | l k => simp [blk] at hb
    | g k =>
      cases r' with
      | l k' => simp [blk] at hb'
      | g k' =>
        have hkk : k ≠ k' := fun e => hne (by rw [e])
        rcases hget k B hb with ⟨hk, hb2⟩ | ⟨hk, B0, hb2, rfl⟩ <;> rcases hget k' B' hb' with ⟨hk', hb2'⟩ | ⟨hk', B0', hb2', rfl⟩
        · simp only [lendS, hk, hk', if_true]; exact H.sep (.g k) (.g k') B B' hb2 hb2' hne hst hd
        · simp only [lendS, hk, if_true, if_neg (by omega : ¬ k' < h.length)]; exact H.sep (.g k) (.l _) B B0' hb2 hb2' (by simp) hst hd
        · simp only [lendS, hk', if_true, if_neg (by omega : ¬ k < h.length)]; exact H.sep (.l _) (.g k') B0 B' hb2 hb2' (by simp) hst hd
        · simp only [lendS, if_neg (by omega : ¬ k < h.length), if_neg (by omega : ¬ k' < h.length)]
          exact H.sep (.l _) (.l _) B0 B0' hb2 hb2' (by simp; omega) hst hd
  · rw [hlen]
    rcases List.mem_append.1 hB with h1 | h1
    · exact vals_mono (by omega) (Nat.le_refl _) (H.gval B h1)
    · obtain ⟨B0, hB0, rfl⟩ := List.mem_map.1 h1
      exact vals_ren (lend_vals _ _) (H.lval B0 hB0)

/-- The blocks given back. -/
def backS (σ1 : Sg) (n : Nat) : Sg := fun r => match r with
  | .g k => σ1 (.g k)
  | .l k => σ1 (.g (n + k))

theorem back_keeps (σ1 : Sg) (n m : Nat) : Keeps σ1 (backS σ1 n) (R.unlend n) m 0 := by
  intro r hr
  cases r with
  | g k =>
    simp only [R.unlend]
    split
    · rfl
    · simp only [backS]; congr 2; omega
  | l k => simp [R.val] at hr
theorem back_vals (n m : Nat) : Vals (R.unlend n) (n + m) 0 n m := by
  intro r hr
  cases r with
  | g k =>
    simp only [R.val, decide_eq_true_eq] at hr
    simp only [R.unlend]
    split
    · simpa [R.val]
    · simp only [R.val, decide_eq_true_eq]; omega
  | l k => simp [R.val] at hr

theorem Inv.lent (H : Inv σ0 h0 w0 σ h ls w) (H1 : Inv (lendS σ h.length) (h ++ ls.map (Blk.ren (R.lend h.length))) w σ1 h1 [] w1)
    (hl : h.length + ls.length ≤ h1.length) (hc : clean h.length (h1.take h.length) = true) :
    Inv σ0 h0 w0 (backS σ1 h.length) (h1.take h.length) ((h1.drop h.length).map (Blk.ren (R.unlend h.length))) w1 := by
  have hlen : (h ++ ls.map (Blk.ren (R.lend h.length))).length = h.length + ls.length := by simp
  have htl : (h1.take h.length).length = h.length := by simp; omega
  have hdl : ((h1.drop h.length).map (Blk.ren (R.unlend h.length))).length = h1.length - h.length := by simp
  have hg : ∀ k B, (h1.take h.length)[k]? = some B → k < h.length ∧ h1[k]? = some B := fun k B hb => by
    rw [List.getElem?_take] at hb
    split at hb
    · rename_i hk; exact ⟨hk, hb⟩
    · cases hb
  have hll : ∀ k B, ((h1.drop h.length).map (Blk.ren (R.unlend h.length)))[k]? = some B → ∃ B0, h1[h.length + k]? = some B0 ∧ B = B0.ren (R.unlend h.length) := fun k B hb => by
    rw [List.getElem?_map, List.getElem?_drop] at hb
    cases hB : h1[h.length + k]? with
    | none => simp [hB] at hb
    | some B0 => simp only [hB, Option.map_some, Option.some.injEq] at hb; exact ⟨B0, rfl, hb.symm⟩
  have hsg : ∀ k, k < h.length → σ1 (.g k) = σ (.g k) := fun k hk => by
    rw [H1.old k (by rw [hlen]; omega)]; simp [lendS, hk]
  have hsl : ∀ k, k < ls.length → σ1 (.g (h.length + k)) = σ (.l k) := fun k hk => by
    rw [H1.old (h.length + k) (by rw [hlen]; omega)]; simp only [lendS, if_neg (by omega : ¬ h.length + k < h.length)]; congr 2; omega
  have hlg : ∀ k B, h[k]? = some B → (h ++ ls.map (Blk.ren (R.lend h.length)))[k]? = some B := fun k B hb => by
    rw [List.getElem?_append_left (List.getElem?_eq_some_iff.1 hb).1]; exact hb
  have hlw : ∀ k B, (h ++ ls.map (Blk.ren (R.lend h.length)))[h.length + k]? = some B → ∃ B0, ls[k]? = some B0 ∧ B.st = B0.st := fun k B hb => by
    rw [List.getElem?_append_right (by omega), show h.length + k - h.length = k by omega, List.getElem?_map] at hb
    cases hB : ls[k]? with
    | none => simp [hB] at hb
    | some B0 => simp only [hB, Option.map_some, Option.some.injEq] at hb; exact ⟨B0, rfl, by rw [← hb]; rfl⟩
  have hcl : ∀ B, B ∈ h1.take h.length → vals h.length 0 B.cells = true := fun B hB => by
    simp only [clean, List.all_eq_true] at hc; exact hc B hB
  refine ⟨⟨?_, ?_, ?_, ?_⟩, ⟨H.kept.same.trans H1.kept.same, ?_⟩, by rw [htl]; exact H.len, ?_, ?_, ?_, ?_⟩
  · intro r B hb
    cases r with
    | g k =>
      obtain ⟨hk, hb1⟩ := hg k B hb
      refine (H1.sim.ok (.g k) B hb1).move (n := h.length) (m := 0) rfl ?_ (hcl B (List.mem_of_getElem? hb)) (Nat.le_refl _) (fun _ => rfl)
      intro r hr
      cases r with
      | g j => rfl
      | l j => simp [R.val] at hr
    | l k =>
      obtain ⟨B0, hb1, rfl⟩ := hll k B hb
      refine (H1.sim.ok (.g (h.length + k)) B0 hb1).ren rfl (fun s hs => ?_)
      have hv := H1.sim.gval B0 (List.mem_of_getElem? hb1)
      simp only [vals, List.all_eq_true] at hv
      exact S.tr_keeps (back_keeps σ1 _ _) (hv s hs)
  · intro r r' B B' hb hb' hne hst hd
    cases r with
    | g k =>
      obtain ⟨hk, hb1⟩ := hg k B hb
      cases r' with
      | g k' => obtain ⟨hk', hb1'⟩ := hg k' B' hb'; exact H1.sim.sep (.g k) (.g k') B B' hb1 hb1' hne hst hd
      | l k' => obtain ⟨B0', hb1', rfl⟩ := hll k' B' hb'; exact H1.sim.sep (.g k) (.g (h.length + k')) B B0' hb1 hb1' (by simp; omega) hst hd
    | l k =>
      obtain ⟨B0, hb1, rfl⟩ := hll k B hb
      cases r' with
      | g k' => obtain ⟨hk', hb1'⟩ := hg k' B' hb'; exact H1.sim.sep (.g (h.length + k)) (.g k') B0 B' hb1 hb1' (by simp; omega) hst hd
      | l k' =>
        obtain ⟨B0', hb1', rfl⟩ := hll k' B' hb'
        exact H1.sim.sep (.g (h.length + k)) (.g (h.length + k')) B0 B0' hb1 hb1' (by simp at hne ⊢; omega) hst hd
  · rw [htl]; exact hcl
  · intro B hB
    rw [htl, hdl]
    obtain ⟨B0, hB0, rfl⟩ := List.mem_map.1 hB
    have hv := H1.sim.gval B0 (List.mem_of_mem_drop hB0)
    rw [show h1.length = h.length + (h1.length - h.length) by omega] at hv
    exact vals_ren (back_vals _ _) hv
  · intro b hlt hno
    rw [H1.kept.keep b (by have := H.kept.same.size; omega) (fun k B hk hrw => ?_)]
    · exact H.kept.keep b hlt hno
    · by_cases hkh : k < h.length
      · rw [List.getElem?_append_left hkh] at hk
        simp only [lendS, hkh, if_true]
        exact (H.outside (r := .g k) hk hrw hlt hno).symm
      · obtain ⟨j, rfl⟩ : ∃ j, k = h.length + j := ⟨k - h.length, by omega⟩
        obtain ⟨B0, hB0, hs⟩ := hlw j B hk
        have := H.outside (r := .l j) hB0 (by rw [← hs]; exact hrw) hlt hno
        simp only [lendS, if_neg hkh, show h.length + j - h.length = j by omega]
        exact this.symm
  · intro k hk; show σ1 (.g k) = _; rw [hsg k (by have := H.len; omega)]; exact H.old k hk
  · intro r B hb hst
    cases r with
    | g k =>
      obtain ⟨hk, hb1⟩ := hg k B hb
      rcases H1.mine (.g k) B hb1 hst with ⟨j, B0, e, hj, hB0⟩ | hge
      · cases e
        rw [List.getElem?_append_left hk] at hj
        rcases H.mine (.g k) B0 hj hB0 with h2 | h2
        · exact .inl h2
        · right; show w0.heap.size ≤ (σ1 (.g k)).1; rw [hsg k hk]; exact h2
      · right; have := H.kept.same.size; show w0.heap.size ≤ (σ1 (.g k)).1; omega
    | l k =>
      obtain ⟨B0, hb1, rfl⟩ := hll k B hb
      right
      show w0.heap.size ≤ (σ1 (.g (h.length + k))).1
      rcases H1.mine (.g (h.length + k)) B0 hb1 hst with ⟨j, B2, e, hj, hB2⟩ | hge
      · cases e
        obtain ⟨B3, hB3, hs⟩ := hlw k B2 hj
        rw [hsl k (List.getElem?_eq_some_iff.1 hB3).1]
        rcases H.mine (.l k) B3 hB3 (by rw [← hs]; exact hB2) with ⟨_, _, e, _⟩ | h2
        · cases e
        · exact h2
      · have := H.kept.same.size; omega
  · intro k hk hk'
    rw [htl] at hk'
    show w0.heap.size ≤ (σ1 (.g k)).1
    rw [hsg k hk']; exact H.new k hk hk'
  · intro k B0 B hk0 hk hd
    obtain ⟨hkl, hb1⟩ := hg k B hk
    obtain ⟨Bm, hBm⟩ : ∃ Bm, h[k]? = some Bm := ⟨_, List.getElem?_eq_getElem hkl⟩
    exact H.live k B0 Bm hk0 hBm (H1.live k Bm B (hlg k Bm hBm) hb1 hd)

end
end Go.D

/- Soundness: calls, regions, code, functions. -/
namespace Go.D
set_option linter.all false

section
variable {P : Program} {o : Oper} {Γ : FuncId → FSpec}

theorem callFunc_run {f : FuncId} (hf : FnOk P f) (args : Array Value) (w : World) : (callFunc f args).run P w = .ok (.enter f args) w := by
  obtain ⟨fn, h1, h2, h3⟩ := hf
  simp only [callFunc, Sem.run_bind, run_program, Result.andThen_ok, h1, h3, Bool.false_eq_true, if_false]
  have : fn.body.isNone = false := by cases hb : fn.body <;> simp [hb] at h2 ⊢
  simp [this]

theorem args_is {σ : Sg} {t : List V} {a : Act} {n m : Nat} (hT : TRel σ t a.tmps n m) : ∀ {xs : List Operand} {ys : List Opd}, compXs xs = some ys → (ys.map (ev t)).all V.known = true →
    xs.map a.eval = (ys.map (ev t)).map (V.tr σ) ∧ (ys.map (ev t)).all (V.val n m) = true
  | [], ys, hx, _ => by simp only [compXs, Option.some.injEq] at hx; subst hx; exact ⟨rfl, rfl⟩
  | x :: xs, ys, hx, hk => by
    simp only [compXs] at hx
    cases h1 : compX x with
    | none => simp [h1] at hx
    | some y =>
      cases h2 : compXs xs with
      | none => simp [h1, h2] at hx
      | some l =>
        simp only [h1, h2, Option.some.injEq] at hx
        subst hx
        simp only [List.map_cons, List.all_cons, Bool.and_eq_true] at hk ⊢
        obtain ⟨v1, v2⟩ := ev_is hT h1
        obtain ⟨i1, i2⟩ := args_is hT h2 hk.2
        have hne : ev t y ≠ .s .u := by intro e; rw [e] at hk; simp [V.known] at hk
        exact ⟨by rw [v2.eq hne, i1], v1, i2⟩

theorem V.known_ren {ρ : R → R} {v : V} : (v.ren ρ).known = v.known := by
  have hs : ∀ s : S, ((V.s (s.ren ρ)).known) = (V.s s).known := fun s => by cases s <;> rfl
  have hk : ∀ xs : List S, D.known (xs.map (S.ren ρ)) = D.known xs := fun xs => by
    simp only [D.known, List.all_map]
    congr 1
    funext s; cases s <;> rfl
  have hc : ∀ c : C, (c.ren ρ).known = c.known := fun c => by
    cases c with
    | s x => cases x <;> rfl
    | agg xs => exact hk xs
  cases v with
  | s x => exact hs x
  | agg xs => exact hk xs
  | tup cs =>
    simp only [V.ren, V.known, List.all_map]
    congr 1
    funext c; exact hc c

/-- A call. -/
theorem call_acts (hΓ : SndΓ P Γ) {σ0 : Sg} {h0 : List Blk} {w0 : World} {σ : Sg} {t : List V} {a : Act} {ls h : List Blk} {w : World} {f : FuncId} {args : List V} {vals : Array Value} {K : V → List Blk → List Blk → Prop} {next : Act → World → Prop} {Q : Exit → Act → World → Prop}
    (H : Inv σ0 h0 w0 σ h ls w) (hT : TRel σ t a.tmps h.length ls.length) (hvals : args.all V.known = true → vals = (args.map (V.tr σ)).toArray ∧ args.all (V.val h.length ls.length) = true) (hrun : FnOk P f → (execOp a.eval o).run P w = .ok (.enter f vals) w)
    (hK : callK Γ f args ls h K) (hn : ∀ σ' v x ls' h' w', Inv σ0 h0 w0 σ' h' ls' w' → TRel σ' t a.tmps h'.length ls'.length → v.val h'.length ls'.length = true → Is σ' v x → K v ls' h' → next (a.put o.dst x) w') :
    o.wp P a w next Q := by
  unfold callK at hK
  obtain ⟨hkn, hK⟩ := hK
  obtain ⟨hv1, hv2⟩ := hvals hkn
  cases hno : args.all V.noL
  · rw [hno] at hK
    simp only [bcase, Bool.false_eq_true, if_false] at hK
    obtain ⟨hok, hs⟩ := hΓ _ _ _ _ hK
    have hS := H.sim.lend
    have hkn' : (args.map (V.ren (R.lend h.length))).all V.known = true := by
      simp only [List.all_map, List.all_eq_true] at hkn ⊢
      exact fun x hx => by show (x.ren _).known = true; rw [V.known_ren]; exact hkn x hx
    have hval' : (args.map (V.ren (R.lend h.length))).all (V.val (h ++ ls.map (Blk.ren (R.lend h.length))).length 0) = true := by
      simp only [List.all_map, List.all_eq_true, List.length_append, List.length_map] at hv2 ⊢
      exact fun x hx => V.val_ren (lend_vals _ _) (hv2 x hx)
    have htr : ((args.map (V.ren (R.lend h.length))).map (V.tr (lendS σ h.length))).toArray = (args.map (V.tr σ)).toArray := by
      congr 1
      rw [List.map_map]
      simp only [List.all_eq_true] at hv2
      exact List.map_congr_left fun x hx => V.tr_keeps (lend_keeps _ _) (hv2 x hx)
    have hC := hs _ _ w _ _ hS hval' hkn' hK
    rw [htr] at hC
    unfold Oper.wp
    rw [hrun hok, hv1]
    refine hC.mono ?_
    rintro e w' ⟨v, h', σ', rfl, k1, k2, H1, ⟨e1, e2⟩, k3⟩
    have H2 := H.lent H1 e1 e2
    have hl1 : (h'.take h.length).length = h.length := by simp; omega
    have hl2 : ((h'.drop h.length).map (Blk.ren (R.unlend h.length))).length = h'.length - h.length := by simp
    have hA : Agree h.length ls.length σ (backS σ' h.length) := by
      intro r hr
      cases r with
      | g k =>
        simp only [R.val, decide_eq_true_eq] at hr
        show σ' (.g k) = _
        rw [H1.old k (by simp; omega)]; simp [lendS, hr]
      | l k =>
        simp only [R.val, decide_eq_true_eq] at hr
        show σ' (.g (h.length + k)) = _
        rw [H1.old (h.length + k) (by simp; omega)]
        simp only [lendS, if_neg (by omega : ¬ h.length + k < h.length)]; congr 2; omega
    refine hn _ (v.ren (R.unlend h.length)) _ _ _ w' H2 (hT.mono hA (by rw [hl1]; exact Nat.le_refl _) (by rw [hl2]; omega)) ?_ (.inr ?_) k3
    · rw [hl1, hl2]
      rw [show h'.length = h.length + (h'.length - h.length) by omega] at k2
      exact V.val_ren (back_vals _ _) k2
    · exact (V.tr_keeps (back_keeps σ' _ _) k2).symm
  · rw [hno] at hK
    simp only [bcase, if_true] at hK
    obtain ⟨hok, hs⟩ := hΓ _ _ _ _ hK
    have hval' : args.all (V.val h.length 0) = true := by
      simp only [List.all_eq_true] at hv2 hno ⊢
      exact fun x hx => V.val_noL (hv2 x hx) (hno x hx)
    have hC := hs _ _ w _ _ H.sim.glob hval' hkn hK
    unfold Oper.wp
    rw [hrun hok, hv1]
    refine hC.mono ?_
    rintro e w' ⟨v, h', σ', rfl, k1, k2, H1, k3⟩
    have H2 := H.call H1
    refine hn _ v _ _ _ w' H2 (hT.mono (mix_agree H1 _) H1.len (Nat.le_refl _)) (V.val_mono (Nat.le_refl _) (Nat.zero_le _) k2) (.inr ?_) k3
    exact (V.tr_congr (mix_agree0 σ σ' _) v k2).symm

theorem ofValue_func (f : FuncId) (cs args : Array Value) (w : World) : (Deferred.ofValue (.func (.func f) #[] cs) args).run P w = .ok { target := .fn (.func f) cs, args := args } w := by
  simp [Deferred.ofValue]

theorem acts_call (hΓ : SndΓ P Γ) {f : FuncId} {c : Call} {ys : List Opd} (ho : o.op = .call c) (hc : c.callee = .value (.func f)) (hx : compXs c.args.toList = some ys) : Acts P Γ o (.call f ys) := by
  intro σ0 h0 w0 σ t a ls h w K next Q H hT hK hn
  simp only [iwp] at hK
  refine call_acts hΓ (vals := c.args.map a.eval) H hT (fun hk => ?_) (fun hok => ?_) hK (fun σ' v x ls' h' w' => hn σ' t v x ls' h' w')
  · obtain ⟨h1, h2⟩ := args_is hT hx hk
    refine ⟨?_, h2⟩
    rw [← h1, ← Array.toList_map, Array.toArray_toList]
  · have he : a.eval (.func f) = .func (.func f) #[] #[] := rfl
    simp [execOp, ho, resolve, hc, he, ofValue_func, invoke, callFunc_run hok]

theorem acts_callv (hΓ : SndΓ P Γ) {i : Tmp} {c : Call} {ys : List Opd} (ho : o.op = .call c) (hc : c.callee = .value (.tmp i)) (hx : compXs c.args.toList = some ys) : Acts P Γ o (.callv (.t i) ys) := by
  intro σ0 h0 w0 σ t a ls h w K next Q H hT hK hn
  simp only [iwp] at hK
  obtain ⟨e1, e2⟩ := ev_is hT (x := .tmp i) (y := .t i) rfl
  split at hK
  · rename_i g cs hq
    rw [hq] at e1 e2
    have hv := e2.eq (by simp)
    simp only [V.tr, S.tr] at hv
    refine call_acts hΓ (vals := c.args.map a.eval ++ (cs.map fun x => Value.pointer (some (adr σ x.1 x.2))).toArray) H hT (fun hk => ?_) (fun hok => ?_) hK (fun σ' v x ls' h' w' => hn σ' t v x ls' h' w')
    · simp only [List.all_append, Bool.and_eq_true] at hk
      obtain ⟨h1, h2⟩ := args_is hT hx hk.1
      refine ⟨?_, ?_⟩
      · rw [List.map_append, List.map_map]
        have : (c.args.map a.eval) = ((ys.map (ev t)).map (V.tr σ)).toArray := by rw [← h1, ← Array.toList_map, Array.toArray_toList]
        rw [this]
        simp only [List.append_toArray]
        congr 1
        simp only [List.map_map]; rfl
      · simp only [List.all_append, Bool.and_eq_true]
        refine ⟨h2, ?_⟩
        simp only [V.val, S.val, List.all_eq_true] at e1
        simp only [List.all_map, List.all_eq_true]
        exact fun x hx => e1 x hx
    · simp [execOp, ho, resolve, hc, hv, ofValue_func, invoke, callFunc_run hok]
  · exact hK.elim

theorem acts_all (hΓ : SndΓ P Γ) {op : I} (hc : compI P o = some op) : Acts P Γ o op := by
  cases hs : op.still
  case true => exact acts_of_looks (looks_all hc hs)
  unfold compI at hc
  split at hc
  · rename_i x ho
    cases hx : compX x with
    | none => simp [hx] at hc
    | some y => simp only [hx, Option.map_some, Option.some.injEq] at hc; subst hc; cases hs
  · rename_i x ho
    cases hx : compX x with
    | none => simp [hx] at hc
    | some y => simp only [hx, Option.map_some, Option.some.injEq] at hc; subst hc; cases hs
  · rename_i c x y ho
    split at hc
    · cases hc; cases hs
    · cases hc
  · rename_i T ho
    cases hz : zeroOf P T with
    | none => simp [hz] at hc
    | some z => simp only [hz, Option.map_some, Option.some.injEq] at hc; subst hc; exact acts_new ho hz
  · rename_i T x ho
    cases hx : compX x with
    | none => simp [hx] at hc
    | some y => simp only [hx, Option.map_some, Option.some.injEq] at hc; subst hc; exact acts_box ho hx
  · rename_i T parts ho
    split at hc
    · rename_i z fs hz hu
      split at hc
      · cases hq : partsOf P (fieldPlaces P fs.toList) parts.toList with
        | none => simp [hq] at hc
        | some qs => simp only [hq, Option.map_some, Option.some.injEq] at hc; subst hc; cases hs
      · cases hc
    · rename_i z n e hz hu
      split at hc
      · rename_i i hi
        cases hq : partsOf P (fun j => some (j * i.size, i.size)) parts.toList with
        | none => simp [hq] at hc
        | some qs => simp only [hq, Option.map_some, Option.some.injEq] at hc; subst hc; cases hs
      · cases hc
    · cases hc
  · rename_i T n parts ho
    split at hc
    · rename_i e hu
      split at hc
      · rename_i i z hi hz
        split at hc
        · rename_i hcond
          cases hq : partsOf P (fun j => some (j * i.size, i.size)) parts.toList with
          | none => simp [hq] at hc
          | some qs => simp only [hq, Option.map_some, Option.some.injEq] at hc; subst hc; exact acts_bsl ho hu hi hz hcond.1 hcond.2 hq
        · cases hc
      · cases hc
    · cases hc
  · split at hc
    · cases hc; cases hs
    · cases hc
  · rename_i T x y ho
    split at hc
    · rename_i x' y' i hx hy hi; cases hc; exact acts_st ho hi hx hy
    · cases hc
  · rename_i x ho
    cases hx : compX x with
    | none => simp [hx] at hc
    | some y => simp only [hx, Option.map_some, Option.some.injEq] at hc; subst hc; cases hs
  · split at hc
    · split at hc <;> (repeat' split at hc) <;> first | (cases hc; done) | (cases hc; cases hs)
    · cases hc
  · rename_i u T x ho
    cases hx : compX x with
    | none => simp [hx] at hc
    | some y => simp only [hx, Option.map_some, Option.some.injEq] at hc; subst hc; cases hs
  · split at hc
    · cases hc; cases hs
    · cases hc
  · rename_i f first caps ho
    split at hc
    · cases hx : compXs caps.toList with
      | none => simp [hx] at hc
      | some ys => simp only [hx, Option.map_some, Option.some.injEq] at hc; subst hc; cases hs
    · cases hc
  · rename_i T n c ho
    split at hc
    · rename_i e n' c' hu hn hc'
      split at hc
      · rename_i i z hi hz
        split at hc
        · cases hc
        · rename_i hsz; cases hc; exact acts_mks ho hu hi hz hsz hn hc'
      · cases hc
    · cases hc
  · split at hc
    · cases hc
    · split at hc
      · split at hc
        · rename_i e hu
          cases hk : P.info? e with
          | none => simp [hk] at hc
          | some k => simp only [hk, Option.map_some, Option.some.injEq] at hc; subst hc; cases hs
        · rename_i n e hu
          cases hk : P.info? e with
          | none => simp [hk] at hc
          | some k => simp only [hk, Option.map_some, Option.some.injEq] at hc; subst hc; cases hs
        · cases hc
      · cases hc
  · split at hc
    · split at hc
      · split at hc
        · split at hc
          · cases hc
          · cases hc; cases hs
        · cases hc
      · cases hc
    · cases hc
  · split at hc
    · split at hc
      · rename_i fl hf
        cases hn : shapeOf P fl.type with
        | none => simp [hn] at hc
        | some n => simp only [hn, Option.map_some, Option.some.injEq] at hc; subst hc; cases hs
      · cases hc
    · cases hc
  · split at hc
    · rename_i n e x' i' hu hx hi
      cases hk : P.info? e with
      | none => simp [hk] at hc
      | some k => simp only [hk, Option.map_some, Option.some.injEq] at hc; subst hc; cases hs
    · rename_i e x' i' hu hx hi
      cases hk : P.info? e with
      | none => simp [hk] at hc
      | some k => simp only [hk, Option.map_some, Option.some.injEq] at hc; subst hc; cases hs
    · cases hc
  · split at hc
    · split at hc
      · cases hc; cases hs
      · cases hc
    · cases hc
  · rename_i x j ho
    cases hx : compX x with
    | none => simp [hx] at hc
    | some y => simp only [hx, Option.map_some, Option.some.injEq] at hc; subst hc; cases hs
  · rename_i c ho
    split at hc
    · rename_i f hcal
      split at hc
      · rename_i fn hfn
        split at hc
        · cases hx : compXs c.args.toList with
          | none => simp [hx] at hc
          | some ys => simp only [hx, Option.map_some, Option.some.injEq] at hc; subst hc; exact acts_call hΓ ho hcal hx
        · cases hc
      · cases hc
    · rename_i i hcal
      cases hx : compXs c.args.toList with
      | none => simp [hx] at hc
      | some ys => simp only [hx, Option.map_some, Option.some.injEq] at hc; subst hc; exact acts_callv hΓ ho hcal hx
    · split at hc
      · rename_i x T ha hat
        split at hc
        · rename_i e hu
          cases hx : compX x with
          | none => simp [hx] at hc
          | some y => simp only [hx, Option.map_some, Option.some.injEq] at hc; subst hc; cases hs
        · cases hc
      · cases hc
    · rename_i hcal
      split at hc
      · rename_i x y T U ha hat
        split at hc
        · rename_i e f hT hU
          split at hc
          · rename_i i z x' y' hi hz hx hy
            split at hc
            · cases hc
            · rename_i hb; cases hc; exact acts_app ho hcal ha hat hT hU hi hz hb hx hy
          · cases hc
        · cases hc
      · cases hc
    · rename_i hcal
      split at hc
      · rename_i x y T U ha hat
        split at hc
        · rename_i e hu
          split at hc
          · rename_i i x' y' hi hx hy; cases hc; exact acts_cpy ho hcal ha hat hu hi hx hy
          · cases hc
        · cases hc
      · cases hc
    · split at hc
      · split at hc
        · cases hc; cases hs
        · cases hc
      · cases hc
    · split at hc
      · split at hc
        · cases hc; cases hs
        · cases hc
      · cases hc
    · cases hc
  · cases hc

end
end Go.D

/- Soundness: regions, code, functions. -/
namespace Go.D
set_option linter.all false

section
variable {P : Program} {Γ : FuncId → FSpec} {σ0 : Sg} {h0 : List Blk} {w0 : World}

theorem compGs_cons {ops : Array Oper} {o : Oper} {os : List Oper} {gl : List GI} (h : compGs P ops (o :: os) = some gl) :
    ∃ g l, gl = g :: l ∧ compG P ops o = some g ∧ compGs P ops os = some l := by
  simp only [compGs] at h
  split at h
  · rename_i g l h1 h2; cases h; exact ⟨g, l, rfl, h1, h2⟩
  · cases h

theorem compG_spec {ops : Array Oper} {o : Oper} {g : GI} (h : compG P ops o = some g) :
    compI P o = some g.op ∧ g.dst = o.dst ∧ ((o.guard = none ∧ g.g = none) ∨ ∃ j want oj d, o.guard = some (j, want) ∧ ops[j]? = some oj ∧ oj.dst = some d ∧ g.g = some (d, want)) := by
  unfold compG at h
  split at h
  · rename_i i hi
    split at h
    · rename_i hg; cases h; exact ⟨hi, rfl, .inl ⟨hg, rfl⟩⟩
    · rename_i j want hg
      split at h
      · rename_i oj hoj
        split at h
        · rename_i d hd; cases h; exact ⟨hi, rfl, .inr ⟨j, want, oj, d, hg, hoj, hd, rfl⟩⟩
        · cases h
      · cases h
  · cases h

/-- What a guard says. -/
theorem guard_wanted {σ : Sg} {t : List V} {a : Act} {n m : Nat} (hT : TRel σ t a.tmps n m) {ops : Array Oper} {o oj : Oper} {j d : Nat} {want : Bool} (hg : o.guard = some (j, want)) (hj : ops[j]? = some oj) (hd : oj.dst = some d) :
    (∀ q, t.getD d (.tup []) = .s (.b q) → Region.wanted o (yielded ops a.tmps) = (q == want)) ∧ (t.getD d (.tup []) = .tup [] → Region.wanted o (yielded ops a.tmps) = false) := by
  have hy : yielded ops a.tmps j = match a.tmps[d]? with | some (.bool b) => some b | _ => none := by
    simp only [yielded, hj, Option.bind_some, hd]
    rfl
  refine ⟨fun q hq => ?_, fun hq => ?_⟩
  · have hlt : d < t.length := by
      rcases Nat.lt_or_ge d t.length with h | h
      · exact h
      · rw [show t.getD d (.tup []) = .tup [] by simp [List.getD, List.getElem?_eq_none h]] at hq; cases hq
    have hi : t[d]? = some (.s (.b q)) := by rw [← hq]; simp [List.getD, hlt]
    obtain ⟨_, x, h2, h3⟩ := hT.at_ d _ hi
    have hx := h3.eq (by simp)
    simp only [V.tr, S.tr] at hx
    subst hx
    simp only [Region.wanted, hg, hy, h2]
    cases q <;> cases want <;> rfl
  · rcases Nat.lt_or_ge d t.length with hlt | hge
    · have hi : t[d]? = some (.tup []) := by rw [← hq]; simp [List.getD, hlt]
      obtain ⟨_, x, h2, h3⟩ := hT.at_ d _ hi
      have hx := h3.eq (by simp)
      simp only [V.tr, List.map_nil] at hx
      subst hx
      simp only [Region.wanted, hg, hy, h2]
      rfl
    · simp only [Region.wanted, hg, hy, Array.getElem?_eq_none (by rw [← hT.size]; exact hge)]
      rfl

theorem set_getD {t : List V} {d : Nat} {v : V} (h : t.getD d (.tup []) = v) (hv : v ≠ .tup []) : t.set d v = t := by
  refine set_same ?_
  rcases Nat.lt_or_ge d t.length with hlt | hge
  · rw [← h]; simp [List.getD, hlt]
  · rw [show t.getD d (.tup []) = .tup [] by simp [List.getD, List.getElem?_eq_none hge]] at h; exact absurd h.symm hv

theorem put_defers (a : Act) (d : Option Tmp) (x : Value) : (a.put d x).defers = a.defers := by cases d <;> rfl

/-- A region in the text's order. -/
theorem rwp_sound (hΓ : SndΓ P Γ) {ops : Array Oper} : ∀ (os : List Oper) (gl : List GI), compGs P ops os = some gl → ∀ (σ : Sg) (t : List V) (a : Act) (ls h : List Blk) (w : World) (K : List V → List Blk → List Blk → Prop) (Q : Exit → Act → World → Prop),
    Inv σ0 h0 w0 σ h ls w → TRel σ t a.tmps h.length ls.length → rwp Γ gl t ls h K →
    (∀ σ' t' ls' h' w' a', Inv σ0 h0 w0 σ' h' ls' w' → TRel σ' t' a'.tmps h'.length ls'.length → a'.defers = a.defers → K t' ls' h' → Q .normal a' w') →
    wpList P ops Q os a w
  | [], gl, hc, σ, t, a, ls, h, w, K, Q, H, hT, hK, hn => by
    simp only [compGs, Option.some.injEq] at hc
    subst hc
    exact hn σ t ls h w a H hT rfl hK
  | o :: os, gl, hc, σ, t, a, ls, h, w, K, Q, H, hT, hK, hn => by
    obtain ⟨g, l, rfl, hg, hl⟩ := compGs_cons hc
    obtain ⟨hi, hdst, hgd⟩ := compG_spec hg
    simp only [rwp] at hK
    have hdo : iwp Γ g.op t ls h (fun t v ls h => rwp Γ l (putD t g.dst v) ls h K) → o.wp P a w (wpList P ops Q os) Q := fun hK => by
      refine acts_all hΓ hi σ0 h0 w0 σ t a ls h w _ _ Q H hT hK (fun σ' t' v x ls' h' w' H' hT' hv hx hK' => ?_)
      rw [hdst] at hK'
      exact rwp_sound hΓ os l hl σ' _ _ ls' h' w' K Q H' (hT'.put o.dst hv hx) hK' (fun σ2 t2 ls2 h2 w2 a2 i1 i2 i3 i4 => hn σ2 t2 ls2 h2 w2 a2 i1 i2 (by rw [i3, put_defers]) i4)
    have hskip : rwp Γ l (putD t g.dst (.tup [])) ls h K → wpList P ops Q os (a.put o.dst undef) w := fun hK => by
      rw [hdst] at hK
      exact rwp_sound hΓ os l hl σ _ _ ls h w K Q H (hT.put o.dst rfl (.inr rfl)) hK (fun σ2 t2 ls2 h2 w2 a2 i1 i2 i3 i4 => hn σ2 t2 ls2 h2 w2 a2 i1 i2 (by rw [i3, put_defers]) i4)
    unfold wpList
    unfold gwp at hK
    rcases hgd with ⟨h1, h2⟩ | ⟨j, want, oj, d, h1, h2, h3, h4⟩
    · rw [h2] at hK
      rw [if_pos (by simp [Region.wanted, h1])]
      exact .inl (hdo hK)
    · rw [h4] at hK
      simp only at hK
      obtain ⟨g1, g2⟩ := guard_wanted hT h1 h2 h3
      split at hK
      · rename_i q hq
        rw [g1 q hq]
        cases q
        · simp only [bcase] at hK
          rw [set_getD hq (by simp)] at hK
          split at hK
          · rename_i hw; rw [if_pos hw]; exact .inl (hdo hK)
          · rename_i hw; rw [if_neg hw]; exact hskip hK
        · simp only [bcase] at hK
          rw [set_getD hq (by simp)] at hK
          split at hK
          · rename_i hw; rw [if_pos hw]; exact .inl (hdo hK)
          · rename_i hw; rw [if_neg hw]; exact hskip hK
      · rename_i hq
        rw [g2 hq, if_neg (by simp)]
        exact hskip hK
      · exact hK.elim

/-- The instructions at the head only look: whatever world they stand in. -/
theorem head_sound {ops : Array Oper} : ∀ (os : List Oper) (gl : List GI), compGs P ops os = some gl → ∀ (n : Nat), n ≤ headLen gl → ∀ (σ : Sg) (t : List V) (a : Act) (ls h : List Blk) (w : World) (K : List V → List Blk → List Blk → Prop) (R : Act → Prop),
    Inv σ0 h0 w0 σ h ls w → TRel σ t a.tmps h.length ls.length → rwp Γ gl t ls h K →
    (∀ t' a', TRel σ t' a'.tmps h.length ls.length → a'.defers = a.defers → rwp Γ (gl.drop n) t' ls h K → R a') →
    wpStill P ops w R (os.take n) a
  | os, gl, _, 0, _, σ, t, a, ls, h, w, K, R, _, hT, hK, hn => by
    simp only [List.take_zero, wpStill]
    exact hn t a hT rfl hK
  | [], gl, hc, n + 1, hlen, σ, t, a, ls, h, w, K, R, H, hT, hK, hn => by
    simp only [compGs, Option.some.injEq] at hc
    subst hc
    simp [headLen] at hlen
  | o :: os, gl, hc, n + 1, hlen, σ, t, a, ls, h, w, K, R, H, hT, hK, hn => by
    obtain ⟨g, l, rfl, hg, hl⟩ := compGs_cons hc
    obtain ⟨hi, hdst, hgd⟩ := compG_spec hg
    simp only [headLen] at hlen
    have hst : g.op.still = true := by
      cases hst : g.op.still
      · rw [hst] at hlen; simp at hlen
      · rfl
    rw [hst] at hlen
    simp only [if_true] at hlen
    simp only [rwp] at hK
    simp only [List.take_succ_cons, wpStill]
    have hdo : iwp Γ g.op t ls h (fun t v ls h => rwp Γ l (putD t g.dst v) ls h K) → o.still P a w (wpStill P ops w R (os.take n)) := fun hK => by
      obtain ⟨v, x, k1, k2, k3, k4⟩ := looks_all hi hst Γ σ t a ls h _ hT (fun r B hb => H.sim.bval hb) hK
      unfold Oper.still
      rw [k4 w H.sim, Oper.stillUpon_value]
      rw [hdst] at k1
      exact head_sound os l hl n (by omega) σ _ _ ls h w K R H (hT.put o.dst k2 k3) k1 (fun t' a' i1 i2 i3 => hn t' a' i1 (by rw [i2, put_defers]) i3)
    have hskip : rwp Γ l (putD t g.dst (.tup [])) ls h K → wpStill P ops w R (os.take n) (a.put o.dst undef) := fun hK => by
      rw [hdst] at hK
      exact head_sound os l hl n (by omega) σ _ _ ls h w K R H (hT.put o.dst rfl (.inr rfl)) hK (fun t' a' i1 i2 i3 => hn t' a' i1 (by rw [i2, put_defers]) i3)
    unfold gwp at hK
    rcases hgd with ⟨h1, h2⟩ | ⟨j, want, oj, d, h1, h2, h3, h4⟩
    · rw [h2] at hK
      rw [if_pos (by simp [Region.wanted, h1])]
      exact hdo hK
    · rw [h4] at hK
      simp only at hK
      obtain ⟨g1, g2⟩ := guard_wanted hT h1 h2 h3
      split at hK
      · rename_i q hq
        rw [g1 q hq]
        cases q
        · simp only [bcase] at hK
          rw [set_getD hq (by simp)] at hK
          split at hK
          · rename_i hw; rw [if_pos hw]; exact hdo hK
          · rename_i hw; rw [if_neg hw]; exact hskip hK
        · simp only [bcase] at hK
          rw [set_getD hq (by simp)] at hK
          split at hK
          · rename_i hw; rw [if_pos hw]; exact hdo hK
          · rename_i hw; rw [if_neg hw]; exact hskip hK
      · rename_i hq
        rw [g2 hq, if_neg (by simp)]
        exact hskip hK
      · exact hK.elim

/-- What is known of the blocks hangs on the valid references alone. -/
theorem Inv.agree {σ σ' : Sg} {h ls : List Blk} {w : World} (H : Inv σ0 h0 w0 σ h ls w) (hA : Agree h.length ls.length σ σ') : Inv σ0 h0 w0 σ' h ls w := by
  have hr : ∀ r B, blk h ls r = some B → σ' r = σ r := fun r B hb => hA r (blk_val hb)
  refine ⟨⟨fun r B hb => ?_, fun r r' B B' hb hb' => ?_, H.sim.gval, H.sim.lval⟩, H.kept, H.len, fun k hk => ?_, fun r B hb hst => ?_, fun k hk hk' => ?_, H.live⟩
  · exact (H.sim.ok r B hb).move (hr r B hb) hA (H.sim.bval hb) (Nat.le_refl _) (fun _ => rfl)
  · rw [hr r B hb, hr r' B' hb']; exact H.sim.sep r r' B B' hb hb'
  · rw [hA (.g k) (by simp only [R.val, decide_eq_true_eq]; have := H.len; omega)]; exact H.old k hk
  · rw [hr r B hb]; exact H.mine r B hb hst
  · rw [hA (.g k) (by simpa [R.val] using hk')]; exact H.new k hk hk'

/-- A region whose order is drawn, and whose operations leave the blocks as they are. -/
theorem rqwp_sound (hΓ : SndΓ P Γ) {ops : Array Oper} (σ : Sg) (ls h : List Blk) : ∀ (os : List Oper) (gl : List GI), compGs P ops os = some gl → gl.all (fun x => x.op.quiet) = true → ∀ (t : List V) (a : Act) (K : List V → Prop) (R : Act → Prop),
    (∃ w, Inv σ0 h0 w0 σ h ls w) → TRel σ t a.tmps h.length ls.length → rqwp Γ gl t ls h K →
    (∀ t' a', TRel σ t' a'.tmps h.length ls.length → a'.defers = a.defers → K t' → R a') →
    wpQuiet P ops (fun w => Inv σ0 h0 w0 σ h ls w) R os a
  | [], gl, hc, _, t, a, K, R, _, hT, hK, hn => by
    simp only [compGs, Option.some.injEq] at hc
    subst hc
    exact hn t a hT rfl hK
  | o :: os, gl, hc, hq, t, a, K, R, hex, hT, hK, hn => by
    obtain ⟨g, l, rfl, hg, hl⟩ := compGs_cons hc
    obtain ⟨hi, hdst, hgd⟩ := compG_spec hg
    simp only [List.all_cons, Bool.and_eq_true] at hq
    simp only [rqwp] at hK
    simp only [wpQuiet]
    have hdo : qwp Γ g.op t ls h (fun v => rqwp Γ l (putD t g.dst v) ls h K) → o.quiet P a (fun w => Inv σ0 h0 w0 σ h ls w) (wpQuiet P ops (fun w => Inv σ0 h0 w0 σ h ls w) R os) := fun hK => by
      by_cases hst : g.op.still = true
      · have hK2 : iwp Γ g.op t ls h (fun _ v _ _ => rqwp Γ l (putD t g.dst v) ls h K) := by
          unfold qwp at hK
          split at hK
          · rename_i f args heq; rw [heq] at hst; cases hst
          · rename_i f args heq; rw [heq] at hst; cases hst
          · exact hK
        obtain ⟨w, hw⟩ := hex
        obtain ⟨v, x, k1, k2, k3, k4⟩ := looks_all hi hst Γ σ t a ls h _ hT (fun r B hb => hw.sim.bval hb) hK2
        refine ⟨x, fun w' hw' => ?_, ?_⟩
        · unfold Oper.quietAt
          rw [k4 w' hw'.sim]
          exact ⟨rfl, rfl⟩
        · rw [hdst] at k1
          exact rqwp_sound hΓ σ ls h os l hl hq.2 _ _ K R ⟨w, hw⟩ (hT.put o.dst k2 k3) k1 (fun t' a' i1 i2 i3 => hn t' a' i1 (by rw [i2, put_defers]) i3)
      · obtain ⟨f, args, hcall⟩ : ∃ f args, g.op = .call f args := by
          have := hq.1
          cases hop : g.op <;> rw [hop] at this hst <;> first | exact ⟨_, _, rfl⟩ | (exfalso; exact hst this)
        rw [hcall] at hK hi
        simp only [qwp] at hK
        obtain ⟨⟨hkn, hno⟩, v, hv0, hcal, hK⟩ := hK
        have hcx : ∃ c : Call, o.op = .call c ∧ c.callee = .value (.func f) ∧ compXs c.args.toList = some args := by
          unfold compI at hi
          (repeat' split at hi) <;> (try (simp only [Option.map_eq_some_iff] at hi; obtain ⟨_, _, hi⟩ := hi)) <;> (try cases hi)
          all_goals exact ⟨_, by assumption, by assumption, by assumption⟩
        obtain ⟨c, ho, hcal2, hxs⟩ := hcx
        obtain ⟨hok, hs⟩ := hΓ _ _ _ _ hcal
        obtain ⟨a1, a2⟩ := args_is hT hxs hkn
        have hval' : (args.map (ev t)).all (V.val h.length 0) = true := by
          simp only [List.all_eq_true] at a2 hno ⊢
          exact fun x hx => V.val_noL (a2 x hx) (hno x hx)
        have hvargs : c.args.map a.eval = ((args.map (ev t)).map (V.tr σ)).toArray := by
          rw [← a1, ← Array.toList_map, Array.toArray_toList]
        refine ⟨v.tr σ, fun w' hw' => ?_, ?_⟩
        · unfold Oper.quietAt
          have he : a.eval (.func f) = .func (.func f) #[] #[] := rfl
          have hrun : (execOp a.eval o).run P w' = .ok (.enter f (c.args.map a.eval)) w' := by
            simp [execOp, ho, resolve, hcal2, he, ofValue_func, invoke, callFunc_run hok]
          rw [hrun, hvargs]
          refine ⟨rfl, ?_⟩
          refine (hs σ h w' _ _ hw'.sim.glob hval' hkn hcal).mono ?_
          rintro e w2 ⟨v', h', σ', rfl, k1, k2, H1, rfl, rfl⟩
          refine ⟨?_, ?_⟩
          · congr 1
            exact V.tr_congr (n := 0) (m := 0) (fun r hr => by cases r <;> simp [Go.D.R.val] at hr) v' hv0
          · exact (hw'.call H1).agree (fun r hr => (mix_agree H1 _ r hr).symm)
        · rw [hdst] at hK
          exact rqwp_sound hΓ σ ls h os l hl hq.2 _ _ K R hex (hT.put o.dst (V.val_mono (Nat.zero_le _) (Nat.zero_le _) hv0) (.inr rfl)) hK (fun t' a' i1 i2 i3 => hn t' a' i1 (by rw [i2, put_defers]) i3)
    have hskip : rqwp Γ l (putD t g.dst (.tup [])) ls h K → wpQuiet P ops (fun w => Inv σ0 h0 w0 σ h ls w) R os (a.put o.dst undef) := fun hK => by
      rw [hdst] at hK
      exact rqwp_sound hΓ σ ls h os l hl hq.2 _ _ K R hex (hT.put o.dst rfl (.inr rfl)) hK (fun t' a' i1 i2 i3 => hn t' a' i1 (by rw [i2, put_defers]) i3)
    unfold gqwp at hK
    rcases hgd with ⟨h1, h2⟩ | ⟨j, want, oj, d, h1, h2, h3, h4⟩
    · rw [h2] at hK
      rw [if_pos (by simp [Region.wanted, h1])]
      exact hdo hK
    · rw [h4] at hK
      simp only at hK
      obtain ⟨g1, g2⟩ := guard_wanted hT h1 h2 h3
      split at hK
      · rename_i q hq
        rw [g1 q hq]
        cases q
        · simp only [bcase] at hK
          rw [set_getD hq (by simp)] at hK
          split at hK
          · rename_i hw; rw [if_pos hw]; exact hdo hK
          · rename_i hw; rw [if_neg hw]; exact hskip hK
        · simp only [bcase] at hK
          rw [set_getD hq (by simp)] at hK
          split at hK
          · rename_i hw; rw [if_pos hw]; exact hdo hK
          · rename_i hw; rw [if_neg hw]; exact hskip hK
      · rename_i hq
        rw [g2 hq, if_neg (by simp)]
        exact hskip hK
      · exact hK.elim

/-! ### regions whose order is drawn, with calls and new blocks -/
/-- A context: where the blocks lie, the function's own ones. -/
def Cok (σ0 : Sg) (h0 : List Blk) (w0 : World) (h : List Blk) (c : Sg × List Blk) (w : World) : Prop := Inv σ0 h0 w0 c.1 h c.2 w
def Cle (h : List Blk) (c c' : Sg × List Blk) : Prop := Agree h.length c.2.length c.1 c'.1 ∧ ∃ ext, c'.2 = c.2 ++ ext

theorem Cle.refl (h : List Blk) (c : Sg × List Blk) : Cle h c c := ⟨fun _ _ => rfl, [], by simp⟩
theorem Cle.trans {h : List Blk} {c1 c2 c3 : Sg × List Blk} (h1 : Cle h c1 c2) (h2 : Cle h c2 c3) : Cle h c1 c3 := by
  obtain ⟨a1, e1, h1⟩ := h1
  obtain ⟨a2, e2, h2⟩ := h2
  refine ⟨fun r hr => ?_, e1 ++ e2, by rw [h2, h1, List.append_assoc]⟩
  rw [a2 r (R.val_mono (Nat.le_refl _) (by rw [h1]; simp) hr), a1 r hr]

theorem Cle.blk {h : List Blk} {c c' : Sg × List Blk} (hl : Cle h c c') {r : R} {B : Blk} (hb : blk h c.2 r = some B) : blk h c'.2 r = some B := by
  obtain ⟨_, e, h2⟩ := hl
  cases r with
  | g k => exact hb
  | l k =>
    simp only [D.blk] at hb ⊢
    rw [h2, List.getElem?_append_left (List.getElem?_eq_some_iff.1 hb).1]; exact hb

/-- What a greater context holds, a smaller one holds. -/
theorem Sim.down {h : List Blk} {c c' : Sg × List Blk} {w w1 : World} (hl : Cle h c c') (H : Sim c'.1 h c'.2 w) (H1 : Sim c.1 h c.2 w1) : Sim c.1 h c.2 w := by
  have hs : ∀ r B, D.blk h c.2 r = some B → c.1 r = c'.1 r := fun r B hb => (hl.1 r (blk_val hb)).symm
  refine ⟨fun r B hb => ?_, fun r r' B B' hb hb' hne hst hd => ?_, H1.gval, H1.lval⟩
  · exact (H.ok r B (hl.blk hb)).move (hs r B hb) (fun r hr => (hl.1 r hr).symm) (H1.bval hb) (Nat.le_refl _) (fun _ => rfl)
  · rw [hs r B hb, hs r' B' hb']
    exact H.sep r r' B B' (hl.blk hb) (hl.blk hb') hne hst hd

/-- A call that leaves the blocks as they are, from a context on. -/
theorem quiet_call (hΓ : SndΓ P Γ) {o : Oper} {a : Act} {σ : Sg} {ls h : List Blk} {f : FuncId} {args : List V} {vals : Array Value} {v : V} (hk : args.all V.known = true) (hno : args.all V.noL = true) (hval : args.all (V.val h.length ls.length) = true)
    (hv0 : v.val 0 0 = true) (hcal : Γ f args h (fun v' h' => v' = v ∧ h' = h)) (hvals : vals = (args.map (V.tr σ)).toArray) (hrun : FnOk P f → ∀ w', (execOp a.eval o).run P w' = .ok (.enter f vals) w') :
    ∀ c', Cle h (σ, ls) c' → ∀ w', Cok σ0 h0 w0 h c' w' → o.quietAt P a (Cok σ0 h0 w0 h c') w' (v.tr σ) := fun c' hle w' hw' => by
  obtain ⟨hok, hs⟩ := hΓ _ _ _ _ hcal
  have hval' : args.all (V.val h.length 0) = true := by
    simp only [List.all_eq_true] at hval hno ⊢
    exact fun x hx => V.val_noL (hval x hx) (hno x hx)
  have hsame : args.map (V.tr c'.1) = args.map (V.tr σ) := List.map_congr_left fun x hx => V.tr_congr (n := h.length) (m := 0) (fun r hr => hle.1 r (R.val_mono (Nat.le_refl _) (Nat.zero_le _) hr)) x (by simp only [List.all_eq_true] at hval'; exact hval' x hx)
  unfold Oper.quietAt
  rw [hrun hok, hvals, ← hsame]
  refine ⟨rfl, ?_⟩
  refine (hs c'.1 h w' _ _ hw'.sim.glob hval' hk hcal).mono ?_
  rintro e w2 ⟨v', h', σ', rfl, k1, k2, H1, rfl, rfl⟩
  refine ⟨?_, ?_⟩
  · congr 1
    exact V.tr_congr (n := 0) (m := 0) (fun r hr => by cases r <;> simp [Go.D.R.val] at hr) v' hv0
  · exact (Inv.call hw' H1).agree (fun r hr => (mix_agree H1 _ r hr).symm)

/-- An instruction that leaves the blocks as they are yields its value from a context on. -/
theorem quiet_up (hΓ : SndΓ P Γ) {ops : Array Oper} {o : Oper} {g : GI} (hg : compG P ops o = some g) (hq : (g.op.still || g.op.calls) = true) {σ : Sg} {t : List V} {a : Act} {ls h : List Blk} {K : List V → Prop} (hex : ∃ w, Inv σ0 h0 w0 σ h ls w)
    (hT : TRel σ t a.tmps h.length ls.length) (hK : gqwp Γ g t ls h K) :
    ∃ v x, UpIn P ops (Cok σ0 h0 w0 h) (Cle h) o x a (σ, ls) ∧ TRel σ (putD t o.dst v) (a.put o.dst x).tmps h.length ls.length ∧ K (putD t o.dst v) := by
  obtain ⟨hi, hdst, hgd⟩ := compG_spec hg
  obtain ⟨w1, hw1⟩ := hex
  have hdo : Region.wanted o (yielded ops a.tmps) = true → qwp Γ g.op t ls h (fun v => K (putD t g.dst v)) →
      ∃ v x, UpIn P ops (Cok σ0 h0 w0 h) (Cle h) o x a (σ, ls) ∧ TRel σ (putD t o.dst v) (a.put o.dst x).tmps h.length ls.length ∧ K (putD t o.dst v) := fun hwant hK => by
    by_cases hst : g.op.still = true
    · have hK2 : iwp Γ g.op t ls h (fun _ v _ _ => K (putD t g.dst v)) := by
        unfold qwp at hK
        split at hK
        · rename_i f args heq; rw [heq] at hst; cases hst
        · rename_i f args heq; rw [heq] at hst; cases hst
        · exact hK
      obtain ⟨v, x, k1, k2, k3, k4⟩ := looks_all hi hst Γ σ t a ls h _ hT (fun r B hb => hw1.sim.bval hb) hK2
      refine ⟨v, x, fun c' hle => .inl ⟨hwant, fun w' hw' => ?_⟩, hT.put o.dst k2 k3, by rw [← hdst]; exact k1⟩
      unfold Oper.quietAt
      rw [k4 w' (Sim.down hle (Inv.sim hw') hw1.sim)]
      exact ⟨rfl, rfl⟩
    · have hcalls : g.op.calls = true := by
        cases h1 : g.op.still
        · rw [h1] at hq; simpa using hq
        · exact absurd h1 hst
      cases hop : g.op <;> rw [hop] at hcalls hK hi <;> (try (cases hcalls; done))
      · rename_i f args
        simp only [qwp] at hK
        obtain ⟨⟨hkn, hno⟩, v, hv0, hcal, hK⟩ := hK
        have hcx : ∃ c : Call, o.op = .call c ∧ c.callee = .value (.func f) ∧ compXs c.args.toList = some args := by
          unfold compI at hi
          (repeat' split at hi) <;> (try (simp only [Option.map_eq_some_iff] at hi; obtain ⟨_, _, hi⟩ := hi)) <;> (try cases hi)
          all_goals exact ⟨_, by assumption, by assumption, by assumption⟩
        obtain ⟨c, ho, hcal2, hxs⟩ := hcx
        obtain ⟨a1, a2⟩ := args_is hT hxs hkn
        refine ⟨v, v.tr σ, fun c' hle => .inl ⟨hwant, quiet_call hΓ (vals := c.args.map a.eval) hkn hno a2 hv0 hcal ?_ (fun hok w' => ?_) c' hle⟩, hT.put o.dst (V.val_mono (Nat.zero_le _) (Nat.zero_le _) hv0) (.inr rfl), by rw [← hdst]; exact hK⟩
        · rw [← a1, ← Array.toList_map, Array.toArray_toList]
        · have he : a.eval (.func f) = .func (.func f) #[] #[] := rfl
          simp [execOp, ho, resolve, hcal2, he, ofValue_func, invoke, callFunc_run hok]
      · rename_i f args
        have hcx : ∃ (c : Call) (i : Tmp), o.op = .call c ∧ c.callee = .value (.tmp i) ∧ f = .t i ∧ compXs c.args.toList = some args := by
          unfold compI at hi
          (repeat' split at hi) <;> (try (simp only [Option.map_eq_some_iff] at hi; obtain ⟨_, hx, hi⟩ := hi)) <;> (try cases hi)
          all_goals exact ⟨_, _, by assumption, by assumption, rfl, by assumption⟩
        obtain ⟨c, i, ho, hcal2, rfl, hxs⟩ := hcx
        simp only [qwp] at hK
        obtain ⟨e1, e2⟩ := ev_is hT (x := .tmp i) (y := .t i) rfl
        split at hK
        · rename_i g' cs hqv
          obtain ⟨⟨hkn, hno⟩, v, hv0, hcal, hK⟩ := hK
          rw [hqv] at e1 e2
          have hv := e2.eq (by simp)
          simp only [V.tr, S.tr] at hv
          have hkn2 := hkn
          simp only [List.all_append, Bool.and_eq_true] at hkn2
          obtain ⟨a1, a2⟩ := args_is hT hxs hkn2.1
          refine ⟨v, v.tr σ, fun c' hle => .inl ⟨hwant, quiet_call hΓ (vals := c.args.map a.eval ++ (cs.map fun x => Value.pointer (some (adr σ x.1 x.2))).toArray) hkn hno ?_ hv0 hcal ?_ (fun hok w' => ?_) c' hle⟩, hT.put o.dst (V.val_mono (Nat.zero_le _) (Nat.zero_le _) hv0) (.inr rfl), by rw [← hdst]; exact hK⟩
          · simp only [List.all_append, Bool.and_eq_true]
            refine ⟨a2, ?_⟩
            simp only [V.val, S.val, List.all_eq_true] at e1
            simp only [List.all_map, List.all_eq_true]
            exact fun x hx => e1 x hx
          · rw [List.map_append, List.map_map]
            have : (c.args.map a.eval) = ((args.map (ev t)).map (V.tr σ)).toArray := by rw [← a1, ← Array.toList_map, Array.toArray_toList]
            rw [this]
            simp only [List.append_toArray]
            congr 1
            simp only [List.map_map]; rfl
          · simp [execOp, ho, resolve, hcal2, hv, ofValue_func, invoke, callFunc_run hok]
        · exact hK.elim
  have hskip : Region.wanted o (yielded ops a.tmps) = false → K (putD t g.dst (.tup [])) →
      ∃ v x, UpIn P ops (Cok σ0 h0 w0 h) (Cle h) o x a (σ, ls) ∧ TRel σ (putD t o.dst v) (a.put o.dst x).tmps h.length ls.length ∧ K (putD t o.dst v) := fun hwant hK =>
    ⟨.tup [], undef, fun c' _ => .inr ⟨hwant, rfl⟩, hT.put o.dst rfl (.inr rfl), by rw [← hdst]; exact hK⟩
  unfold gqwp at hK
  rcases hgd with ⟨h1, h2⟩ | ⟨j, want, oj, d, h1, h2, h3, h4⟩
  · rw [h2] at hK
    exact hdo (by simp [Region.wanted, h1]) hK
  · rw [h4] at hK
    simp only at hK
    obtain ⟨g1, g2⟩ := guard_wanted hT h1 h2 h3
    split at hK
    · rename_i q hq
      cases q
      · simp only [bcase] at hK
        rw [set_getD hq (by simp)] at hK
        split at hK
        · rename_i hw; exact hdo (by rw [g1 _ hq]; exact hw) hK
        · rename_i hw; exact hskip (by rw [g1 _ hq]; simpa using hw) hK
      · simp only [bcase] at hK
        rw [set_getD hq (by simp)] at hK
        split at hK
        · rename_i hw; exact hdo (by rw [g1 _ hq]; exact hw) hK
        · rename_i hw; exact hskip (by rw [g1 _ hq]; simpa using hw) hK
    · rename_i hq
      exact hskip (g2 hq) hK
    · exact hK.elim

/-- An instruction that makes a block. -/
theorem makes {o : Oper} {op : I} (hi : compI P o = some op) (ha : op.alloc = true) {σ : Sg} {t : List V} {a : Act} {ls h : List Blk} {w : World} {K : List V → V → List Blk → List Blk → Prop} (H : Inv σ0 h0 w0 σ h ls w) (hT : TRel σ t a.tmps h.length ls.length) (hK : iwp Γ op t ls h K) :
    ∃ (σ' : Sg) (B : Blk) (v : V) (x : Value) (w' : World), (execOp a.eval o).run P w = .ok (.value x) w' ∧ Cle h (σ, ls) (σ', ls ++ [B]) ∧ Inv σ0 h0 w0 σ' h (ls ++ [B]) w' ∧ TRel σ' t a.tmps h.length (ls ++ [B]).length ∧ v.val h.length (ls ++ [B]).length = true ∧ Is σ' v x ∧ K t v (ls ++ [B]) h := by
  have fresh : ∀ (cells : List S) (T : TypeId), vals h.length ls.length cells = true → ∃ σ', Cle h (σ, ls) (σ', ls ++ [⟨.rw, cells, cells.length⟩]) ∧ Inv σ0 h0 w0 σ' h (ls ++ [⟨.rw, cells, cells.length⟩]) (w.alloc (.cells (trs σ cells) T)) ∧
      TRel σ' t a.tmps h.length (ls ++ [(⟨.rw, cells, cells.length⟩ : Blk)]).length ∧ ∀ o, adr σ' (.l ls.length) o = ⟨w.heap.size, o, none⟩ := fun cells T hv => by
    have H' := H.alloc cells T #[] hv
    simp only [Array.append_empty, Array.size_empty, Nat.add_zero] at H'
    exact ⟨lay σ (.l ls.length) (w.heap.size, 0), ⟨agree_lay _ _ _ _ _ (Nat.le_refl _), _, rfl⟩, H', hT.mono (agree_lay _ _ _ _ _ (Nat.le_refl _)) (Nat.le_refl _) (by simp), fun o => by simp [adr, lay]⟩
  cases op <;> (try (cases ha; done))
  · rename_i z
    have hcx : ∃ T, o.op = .alloc T ∧ zeroOf P T = some z := by
      unfold compI at hi
      (repeat' split at hi) <;> (try (simp only [Option.map_eq_some_iff] at hi; obtain ⟨_, hx, hi⟩ := hi)) <;> (try cases hi)
      all_goals exact ⟨_, by assumption, hx⟩
    obtain ⟨T, ho, hz⟩ := hcx
    obtain ⟨i, v, hti, hiz, hcells, hvz, _, _⟩ := zeroOf_run hz σ
    obtain ⟨σ', c1, c2, c3, hadr⟩ := fresh z T (vals_mono (Nat.zero_le _) (Nat.zero_le _) hvz)
    simp only [iwp] at hK
    refine ⟨σ', _, _, .pointer (some ⟨w.heap.size, 0, none⟩), _, ?_, c1, c2, c3, ?_, .inr ?_, hK⟩
    · simp [execOp, ho, Instr.alloc, zeroValue, typeInfo, hti, hiz, newVar, newRow, hcells]
    · simp [V.val, S.val, R.val]
    · simp [V.tr, S.tr, hadr]
  · rename_i n zz qs
    have hcx : ∃ (T e : TypeId) (parts : Array (Nat × Operand)) (i : TypeInfo) (z : List S), o.op = .buildSlice T n parts ∧ P.underlying T = some (.slice e) ∧ P.info? e = some i ∧ zeroOf P e = some z ∧ n * i.size ≤ 2 ^ 24 ∧ i.size ≠ 0 ∧
        partsOf P (fun j => some (j * i.size, i.size)) parts.toList = some qs ∧ zz = zeros z n := by
      unfold compI at hi
      split at hi <;> (repeat' split at hi) <;> (try (simp only [Option.map_eq_some_iff] at hi; obtain ⟨_, hx, hi⟩ := hi)) <;> (try cases hi)
      all_goals first | (rename_i hcond; exact ⟨_, _, _, _, _, by assumption, by assumption, by assumption, by assumption, hcond.1, hcond.2, hx, rfl⟩)
    obtain ⟨T, e, parts, i, z, ho, hu, hti, hz, hn24, hsz, hq, rfl⟩ := hcx
    simp only [iwp] at hK
    split at hK
    · rename_i z' hz'
      obtain ⟨k, v, hk, hiz, hcells, hvz, _, hzl⟩ := zeroOf_run hz σ
      have hki : k = i := by rw [hk] at hti; cases hti; rfl
      rw [hki] at hk hiz hzl
      clear hki
      have hzne : z ≠ [] := by intro e; rw [e] at hzl; simp at hzl; omega
      obtain ⟨f1, f2⟩ := fill_run hT _ (fun j => some (j * i.size, i.size)) (fun _ _ h => h) parts.toList qs (zeros z n) z' hq hz' (vals_mono (Nat.zero_le _) (Nat.zero_le _) (zeros_vals hvz n))
      obtain ⟨σ', c1, c2, c3, hadr⟩ := fresh z' e f2
      refine ⟨σ', _, _, .slice (some ⟨w.heap.size, 0, none⟩) n n, _, ?_, c1, c2, c3, ?_, .inr ?_, hK⟩
      · have h24 : ¬ (2 ^ 24 < n * i.size) := by omega
        by_cases h0 : n * i.size = 0
        · have hn0 : n = 0 := by rcases Nat.mul_eq_zero.1 h0 with h | h; exact h; exact absurd h hsz
          subst hn0
          have f1' : Instr.fill (fun j => some (j * i.size, i.size)) #[] (parts.toList.map fun x => (x.1, a.eval x.2)) = some (trs σ z') := f1
          simp [execOp, ho, Instr.buildSlice, run_underlying hu, sizeOf, typeInfo, hti, f1', newRow, Array.range_zero']
        · have f1' := f1
          rw [← zeros_trs σ z hzne n, hzl] at f1'
          simp [execOp, ho, Instr.buildSlice, run_underlying hu, sizeOf, typeInfo, hti, h24, h0, zeroValue, hiz, hcells, f1', newRow]
      · simp [V.val, S.val, R.val]
      · simp [V.tr, S.tr, hadr]
    · exact hK.elim

theorem compGs_get {ops : Array Oper} : ∀ {os : List Oper} {gl : List GI}, compGs P ops os = some gl → ∀ {k : Nat} {g : GI}, gl[k]? = some g → ∃ o, os[k]? = some o ∧ compG P ops o = some g
  | [], gl, h, k, g, hk => by
    simp only [compGs, Option.some.injEq] at h
    subst h; simp at hk
  | o :: os, gl, h, k, g, hk => by
    obtain ⟨g', l, rfl, h1, h2⟩ := compGs_cons h
    cases k with
    | zero => simp only [List.getElem?_cons_zero, Option.some.injEq] at hk; subst hk; exact ⟨o, rfl, h1⟩
    | succ k => simp only [List.getElem?_cons_succ] at hk ⊢; exact compGs_get h2 hk

/-- Up to the next one that does whatever it does: how many, and what is left. -/
def segN : List Tk → Nat
  | [] => 0
  | .b _ :: _ => 0
  | .q _ :: r => segN r + 1
  | .e _ :: r => segN r + 1
def restTk : List Tk → List Tk
  | [] => []
  | .b k :: r => .b k :: r
  | .q _ :: r => restTk r
  | .e _ :: r => restTk r

theorem seg_length : ∀ tks : List Tk, tks.length = segN tks + (restTk tks).length
  | [] => rfl
  | .b _ :: r => by simp [segN, restTk]
  | .q _ :: r => by simp only [segN, restTk, List.length_cons, seg_length r]; omega
  | .e _ :: r => by simp only [segN, restTk, List.length_cons, seg_length r]; omega

theorem restTk_form : ∀ tks : List Tk, restTk tks = [] ∨ ∃ k r, restTk tks = .b k :: r
  | [] => .inl rfl
  | .b k :: r => .inr ⟨k, r, rfl⟩
  | .q _ :: r => restTk_form r
  | .e _ :: r => restTk_form r

/-- What stands at the end of such a stretch. -/
def LSeg (Γ : FuncId → FSpec) (ops : Array Oper) (gl : List GI) (h : List Blk) (n : Nat) (R : List Tk) (d0 : List Deferred) (K : List V → List Blk → List Blk → Prop) (listed : Array Bool) (a : Act) (c : Sg × List Blk) : Prop :=
  okTk .any ops n R listed = true ∧ Closed .any ops listed ∧ ∃ l t, tkCode gl R = some l ∧ TRel c.1 t a.tmps h.length c.2.length ∧ a.defers = d0 ∧ mwp Γ l t c.2 h K

theorem tk_K (hΓ : SndΓ P Γ) {ops : Array Oper} {gl : List GI} (hg : compGs P ops ops.toList = some gl) (hsel : Region.noSelect ops = true) {Q : Exit → Act → World → Prop} (hQ : ∀ c a w, ¬ Q (.panic c) a w) {h : List Blk} {n : Nat} (hbar : barB .any ops n = true)
    (d0 : List Deferred) (K : List V → List Blk → List Blk → Prop) :
    ∀ (tks : List Tk) (l : List (Bool × GI)) (listed : Array Bool) (σ : Sg) (t : List V) (a : Act) (ls : List Blk),
      tkCode gl tks = some l → okTk .any ops n tks listed = true → Closed .any ops listed → (∃ w, Inv σ0 h0 w0 σ h ls w) → TRel σ t a.tmps h.length ls.length → a.defers = d0 → mwp Γ l t ls h K →
      wpK P .any ops Q (Cok σ0 h0 w0 h) (Cle h) n (LSeg Γ ops gl h n (restTk tks) d0 K) (segN tks) listed a (σ, ls)
  | [], l, listed, σ, t, a, ls, hc, hok, hcl, _, hT, hd, hK => ⟨hok, hcl, l, t, hc, hT, hd, hK⟩
  | .b k :: r, l, listed, σ, t, a, ls, hc, hok, hcl, _, hT, hd, hK => ⟨hok, hcl, l, t, hc, hT, hd, hK⟩
  | .q k :: r, l, listed, σ, t, a, ls, hc, hok, hcl, hex, hT, hd, hK => by
    simp only [tkCode] at hc
    split at hc
    · rename_i g m hgk hm
      split at hc
      · rename_i hq
        cases hc
        obtain ⟨o, ho, hco⟩ := compGs_get hg hgk
        have ho' : ops[k]? = some o := by simpa using ho
        simp only [okTk, Bool.and_eq_true, decide_eq_true_eq] at hok
        obtain ⟨⟨⟨k1, k2⟩, k3⟩, k4⟩ := hok
        have hr : k ∈ Region.ready .any ops listed := by simpa using k1
        simp only [mwp] at hK
        obtain ⟨v, x, u1, u2, u3⟩ := quiet_up hΓ hco hq hex hT hK
        refine wpK_first (Cle.refl h) (fun h1 h2 => Cle.trans h1 h2) ho' (Region.noSelect_spec hsel) hbar k3 (fun listed' a' c' hL j hj => ?_) (fun c a w hh => absurd hh (hQ _ _ _)) (segN r) listed a (σ, ls) hcl (Region.free_spec ho' k2) hr u1 ?_
        · obtain ⟨hL, _⟩ := hL
          rcases restTk_form (.q k :: r) with e | ⟨k', r', e⟩ <;> rw [e] at hL <;> simp only [okTk, Bool.and_eq_true, decide_eq_true_eq] at hL
          · rw [List.isEmpty_iff.1 hL.1] at hj; cases hj
          · rw [hL.1.1.1] at hj
            have : j = k' := by simpa using hj
            omega
        · exact tk_K hΓ hg hsel hQ hbar d0 K r m _ σ _ _ ls hm k4 (hcl.set hr) hex u2 (by rw [put_defers, hd]) u3
      · cases hc
    · cases hc
  | .e k :: r, l, listed, σ, t, a, ls, hc, hok, hcl, hex, hT, hd, hK => by
    simp only [tkCode] at hc
    split at hc
    · rename_i g m hgk hm
      split at hc
      · rename_i hq
        cases hc
        simp only [Bool.and_eq_true] at hq
        obtain ⟨o, ho, hco⟩ := compGs_get hg hgk
        have ho' : ops[k]? = some o := by simpa using ho
        simp only [okTk, Bool.and_eq_true, decide_eq_true_eq] at hok
        obtain ⟨⟨k1, k3⟩, k4⟩ := hok
        have hr : k ∈ Region.ready .any ops listed := by rw [k1]; simp
        obtain ⟨hi, hdst, hgd⟩ := compG_spec hco
        have hgn : g.g = none := by simpa using hq.2
        have hog : o.guard = none := by
          rcases hgd with ⟨h1, _⟩ | ⟨_, _, _, _, _, _, _, h4⟩
          · exact h1
          · rw [hgn] at h4; cases h4
        simp only [mwp, gwp, hgn] at hK
        refine wpK_single k1 k3 fun w hw => ?_
        obtain ⟨σ', B, v, x, w', m1, m2, m3, m4, m5, m6, m7⟩ := makes hi hq.1 hw hT hK
        unfold wpOp
        simp only [ho']
        rw [if_pos (by simp [Region.wanted, hog])]
        refine .inl ?_
        unfold Oper.wp
        rw [m1]
        rw [hdst] at m7
        exact ⟨(σ', ls ++ [B]), m2, m3, tk_K hΓ hg hsel hQ hbar d0 K r m _ σ' _ _ _ hm k4 (hcl.set hr) ⟨w', m3⟩ (m4.put o.dst m5 m6) (by rw [put_defers, hd]) m7⟩
      · cases hc
    · cases hc

theorem tk_all (hΓ : SndΓ P Γ) {ops : Array Oper} {gl : List GI} (hg : compGs P ops ops.toList = some gl) (hsel : Region.noSelect ops = true) {Q : Exit → Act → World → Prop} (hQ : ∀ c a w, ¬ Q (.panic c) a w) (d0 : List Deferred) (K : List V → List Blk → List Blk → Prop)
    (hfin : ∀ σ' t' ls' h' w' a', Inv σ0 h0 w0 σ' h' ls' w' → TRel σ' t' a'.tmps h'.length ls'.length → a'.defers = d0 → K t' ls' h' → Q .normal a' w') :
    ∀ (N : Nat) (tks : List Tk), tks.length ≤ N → ∀ (n : Nat) (l : List (Bool × GI)) (listed : Array Bool) (σ : Sg) (t : List V) (a : Act) (ls h : List Blk) (w : World), barB .any ops n = true →
      tkCode gl tks = some l → okTk .any ops n tks listed = true → Closed .any ops listed → Inv σ0 h0 w0 σ h ls w → TRel σ t a.tmps h.length ls.length → a.defers = d0 → mwp Γ l t ls h K →
      wpAny P .any ops Q tks.length listed a w := by
  intro N
  induction N with
  | zero =>
    intro tks hN n l listed σ t a ls h w hbar hc hok hcl H hT hd hK
    have : tks = [] := by cases tks with | nil => rfl | cons => simp at hN
    subst this
    simp only [okTk, Bool.and_eq_true] at hok
    simp only [tkCode, Option.some.injEq] at hc
    subst hc
    exact ⟨List.isEmpty_iff.1 hok.1, hfin σ t ls h w a H hT hd hK⟩
  | succ N ih =>
    intro tks hN n l listed σ t a ls h w hbar hc hok hcl H hT hd hK
    rw [seg_length tks]
    refine wpAny_of_wpK (g := (restTk tks).length) (fun listed' a' c' w' hL hw' => ?_) (segN tks) listed a (σ, ls) w H (tk_K hΓ hg hsel hQ hbar d0 K tks l listed σ t a ls hc hok hcl ⟨w, H⟩ hT hd hK)
    obtain ⟨l1, l2, l', t', l3, l4, l5, l6⟩ := hL
    have hlen := seg_length tks
    rcases restTk_form tks with e | ⟨k, r, e⟩
    · rw [e] at l1 l3 ⊢
      simp only [okTk, Bool.and_eq_true] at l1
      simp only [tkCode, Option.some.injEq] at l3
      subst l3
      exact ⟨List.isEmpty_iff.1 l1.1, hfin c'.1 t' c'.2 h w' a' hw' l4 l5 l6⟩
    · rw [e] at l1 l3 hlen ⊢
      simp only [okTk, Bool.and_eq_true, decide_eq_true_eq] at l1
      obtain ⟨⟨⟨k1, k2⟩, k3⟩, k4⟩ := l1
      have hr : k ∈ Region.ready .any ops listed' := by rw [k1]; simp
      simp only [tkCode] at l3
      split at l3
      · rename_i g m hgk hm
        cases l3
        obtain ⟨o, ho, hco⟩ := compGs_get hg hgk
        have ho' : ops[k]? = some o := by simpa using ho
        obtain ⟨hi, hdst, hgd⟩ := compG_spec hco
        simp only [List.length_cons] at hlen ⊢
        refine ⟨fun h0 => (by rw [k1] at h0; cases h0), fun i hi' => ?_⟩
        rw [k1] at hi'
        have hik : i = k := by simpa using hi'
        subst hik
        simp only [mwp] at l6
        have go : ∀ (σ2 : Sg) (t2 : List V) (a2 : Act) (ls2 h2 : List Blk) (w2 : World), Inv σ0 h0 w0 σ2 h2 ls2 w2 → TRel σ2 t2 a2.tmps h2.length ls2.length → a2.defers = d0 → mwp Γ m t2 ls2 h2 K → wpAny P .any ops Q r.length (listed'.setIfInBounds i true) a2 w2 :=
          fun σ2 t2 a2 ls2 h2 w2 i1 i2 i3 i4 => ih r (by omega) _ m _ σ2 t2 a2 ls2 h2 w2 k3 hm k4 (l2.set hr) i1 i2 i3 i4
        have hdo : iwp Γ g.op t' c'.2 h (fun t v ls h => mwp Γ m (putD t g.dst v) ls h K) → o.wp P a' w' (wpAny P .any ops Q r.length (listed'.setIfInBounds i true)) Q := fun hK => by
          refine acts_all hΓ hi σ0 h0 w0 c'.1 t' a' c'.2 h w' _ _ Q hw' l4 hK (fun σ' t2 v x ls' h' w2 H' hT' hv hx hK' => ?_)
          rw [hdst] at hK'
          exact go σ' _ _ ls' h' w2 H' (hT'.put o.dst hv hx) (by rw [put_defers, l5]) hK'
        have hskip : mwp Γ m (putD t' g.dst (.tup [])) c'.2 h K → wpAny P .any ops Q r.length (listed'.setIfInBounds i true) (a'.put o.dst undef) w' := fun hK => by
          rw [hdst] at hK
          exact go c'.1 _ _ c'.2 h w' hw' (l4.put o.dst rfl (.inr rfl)) (by rw [put_defers, l5]) hK
        unfold wpOp
        simp only [ho']
        unfold gwp at l6
        rcases hgd with ⟨h1, h2⟩ | ⟨j, want, oj, d, h1, h2, h3, h4⟩
        · rw [h2] at l6
          rw [if_pos (by simp [Region.wanted, h1])]
          exact .inl (hdo l6)
        · rw [h4] at l6
          simp only at l6
          obtain ⟨g1, g2⟩ := guard_wanted l4 h1 h2 h3
          split at l6
          · rename_i q hq
            rw [g1 q hq]
            cases q
            · simp only [bcase] at l6
              rw [set_getD hq (by simp)] at l6
              split at l6
              · rename_i hw; rw [if_pos hw]; exact .inl (hdo l6)
              · rename_i hw; rw [if_neg hw]; exact hskip l6
            · simp only [bcase] at l6
              rw [set_getD hq (by simp)] at l6
              split at l6
              · rename_i hw; rw [if_pos hw]; exact .inl (hdo l6)
              · rename_i hw; rw [if_neg hw]; exact hskip l6
          · rename_i hq
            rw [g2 hq, if_neg (by simp)]
            exact hskip l6
          · exact l6.elim
      · cases l3

/-- Such a region. -/
theorem drm_sound (hΓ : SndΓ P Γ) (hm : P.follows .mixedOrders = true) {id : Nat} {ops : Array Oper} {gl : List GI} (hg : compGs P ops ops.toList = some gl) {l : List (Bool × GI)} (hl : drmOf ops gl = some l) {σ : Sg} {t : List V} {a : Act} {ls h : List Blk} {w : World} {K : List V → List Blk → List Blk → Prop} {Q : Exit → Act → World → Prop}
    (H : Inv σ0 h0 w0 σ h ls w) (hT : TRel σ t a.tmps h.length ls.length) (hK : mwp Γ l t ls h K)
    (hn : ∀ σ' t' ls' h' w' a', Inv σ0 h0 w0 σ' h' ls' w' → TRel σ' t' a'.tmps h'.length ls'.length → a'.defers = a.defers → K t' ls' h' → Q .normal a' w') (hQ : ∀ c a w, ¬ Q (.panic c) a w) :
    (Code.region id ops true).wp P Q a w := by
  unfold drmOf at hl
  split at hl
  · rename_i hsel
    split at hl
    · rename_i tks htk
      split at hl
      · rename_i hc
        simp only [Bool.and_eq_true, decide_eq_true_eq] at hc
        have hcl : Closed .any ops (Array.replicate ops.size false) := ⟨by simp, fun j oj _ hl => (by rw [getD_replicate_false] at hl; cases hl)⟩
        have := tk_all hΓ hg hsel hQ a.defers K hn tks.length tks (Nat.le_refl _) _ l _ σ t a ls h _ hc.1.1 hl hc.1.2 hcl (H.drawn (w.drawn + 1)) hT rfl hK
        refine wp_region_any hm ?_
        rw [hc.2] at this
        exact this
      · cases hl
    · cases hl
  · cases hl
end
end Go.D

