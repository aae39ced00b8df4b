/- How stores, new blocks and a block that is remade keep what is known of the blocks. -/
import Derived.Test.YthegocjfnjfkdaaDA
namespace Go.D
set_option linter.all false

/-- What may be put into a block: into a shared one nothing of the function's own. -/
def R.takes (r : R) (n m : Nat) (s : S) : Bool :=
  match r with
  | .g _ => s.val n 0
  | .l _ => s.val n m

theorem R.takes_val {r : R} {n m : Nat} {s : S} (h : r.takes n m s = true) : s.val n m = true := by
  cases r with
  | g k => exact S.val_mono (Nat.le_refl _) (Nat.zero_le _) h
  | l k => exact h

theorem vals_set {n m o : Nat} {xs : List S} {s : S} (h : vals n m xs = true) (hs : s.val n m = true) : vals n m (xs.set o s) = true := by
  simp only [vals, List.all_eq_true] at *
  intro x hx
  rcases List.mem_or_eq_of_mem_set hx with h1 | h1
  · exact h x h1
  · subst h1; exact hs

theorem setL_lval {h ls : List Blk} {r : R} {B : Blk} {n m : Nat} (hl : ∀ X, X ∈ ls → vals n m X.cells = true) (hB : (∃ k, r = .l k) → vals n m B.cells = true) :
    ∀ X, X ∈ setL ls r B → vals n m X.cells = true := by
  intro X hX
  rcases mem_setL hX with h1 | ⟨h1, h2⟩
  · exact hl X h1
  · subst h1; exact hB h2

section
variable {σ0 : Sg} {h0 : List Blk} {w0 : World} {σ : Sg} {h ls : List Blk} {w : World}

theorem Inv.outside (H : Inv σ0 h0 w0 σ h ls w) {r : R} {B : Blk} (hb : blk h ls r = some B) (hst : B.st = .rw) {b : Nat} (hlt : b < w0.heap.size)
    (hno : ∀ k B, h0[k]? = some B → B.st = .rw → (σ0 (.g k)).1 ≠ b) : b ≠ (σ r).1 := by
  rcases H.mine r B hb hst with ⟨k, B0, rfl, hk, hB0⟩ | hge
  · have hlt' : k < h0.length := by
      rcases Nat.lt_or_ge k h0.length with h1 | h1
      · exact h1
      · rw [List.getElem?_eq_none h1] at hk; cases hk
    rw [H.old k hlt']
    exact (hno k B0 hk hB0).symm
  · omega

theorem Inv.store1 (H : Inv σ0 h0 w0 σ h ls w) {r : R} {B : Blk} (hb : blk h ls r = some B) (hst : B.st = .rw) {o : Nat} (ho : o < B.cells.length) {s : S} (_hs : s ≠ .u)
    (hv : r.takes h.length ls.length s = true) :
    Inv σ0 h0 w0 σ (setH h r { B with cells := B.cells.set o s }) (setL ls r { B with cells := B.cells.set o s }) (w.setCell (adr σ r o) (s.tr σ)) := by
  have hok := H.sim.ok r B hb
  unfold OkBlk at hok
  rw [hst] at hok
  obtain ⟨k1, k2, k3, k4⟩ := hok
  have hroom := k4 o (by omega)
  have hsome : ∃ u, w.cell? (adr σ r o) = some u := Option.isSome_iff_exists.1 hroom.1
  obtain ⟨u0, hu0⟩ := hsome
  have hother : ∀ b, b ≠ (σ r).1 → (w.setCell (adr σ r o) (s.tr σ)).heap[b]? = w.heap[b]? := fun b hne =>
    Go.RowKit.Below.heap_setCell _ _ _ _ hne
  refine ⟨⟨?_, ?_, ?_, ?_⟩, ⟨⟨?_, ?_, ?_, ?_⟩, ?_⟩, ?_, ?_, ?_, ?_, ?_⟩
  · intro r' B' hb'
    rw [blk_set] at hb'
    by_cases hr : r = r'
    · subst hr
      rw [if_pos rfl, hb] at hb'
      simp only [Option.map_some, Option.some.injEq] at hb'
      subst hb'
      unfold OkBlk
      simp only [hst, World.size_setCell, List.length_set]
      refine ⟨k1, fun i s' hi hu => ?_, k3, fun i hi => ⟨?_, ?_⟩⟩
      · by_cases hio : i = o
        · subst hio
          rw [List.getElem?_set_self ho] at hi
          cases hi
          exact World.cell?_setCell_same _ _ _ hu0
        · rw [List.getElem?_set_ne (by omega)] at hi
          rw [World.cell?_setCell_other _ _ _ _ (by simp only [adr, ne_eq, Addr.mk.injEq, not_and]; omega)]
          exact k2 i s' hi hu
      · by_cases hio : i = o
        · subst hio; rw [World.cell?_setCell_same _ _ _ hu0]; rfl
        · rw [World.cell?_setCell_other _ _ _ _ (by simp only [adr, ne_eq, Addr.mk.injEq, not_and]; omega)]
          exact (k4 i hi).1
      · rw [World.frozen?_setCell]; exact (k4 i hi).2
    · rw [if_neg hr] at hb'
      refine (H.sim.ok r' B' hb').move rfl (n := h.length) (m := ls.length) (fun _ _ => rfl) (H.sim.bval hb') (by simp) (fun hd => hother _ ?_)
      exact (H.sim.sep r r' B B' hb hb' hr hst hd).symm
  · intro r1 r2 B1 B2 hb1 hb2 hne hs1 hs2
    rw [blk_set] at hb1 hb2
    by_cases e1 : r = r1
    · subst e1
      rw [if_neg hne] at hb2
      exact H.sim.sep r r2 B B2 hb hb2 hne hst hs2
    · rw [if_neg e1] at hb1
      by_cases e2 : r = r2
      · subst e2
        exact H.sim.sep r1 r B1 B hb1 hb hne hs1 (by rw [hst]; simp)
      · rw [if_neg e2] at hb2
        exact H.sim.sep r1 r2 B1 B2 hb1 hb2 hne hs1 hs2
  · intro X hX
    rw [setH_length]
    rcases mem_setH hX with h1 | ⟨h1, k, h2⟩
    · exact H.sim.gval X h1
    · subst h1; subst h2
      exact vals_set (H.sim.gval B (List.mem_of_getElem? hb)) hv
  · intro X hX
    rw [setH_length, setL_length]
    rcases mem_setL hX with h1 | ⟨h1, k, h2⟩
    · exact H.sim.lval X h1
    · subst h1; subst h2
      exact vals_set (H.sim.lval B (List.mem_of_getElem? hb)) hv
  · exact H.kept.same.os
  · exact H.kept.same.tape
  · exact H.kept.same.output
  · rw [World.size_setCell]; exact H.kept.same.size
  · intro b hlt hno
    rw [hother b (H.outside hb hst hlt hno)]
    exact H.kept.keep b hlt hno
  · rw [setH_length]; exact H.len
  · exact H.old
  · intro r' B' hb' hst'
    rw [blk_set] at hb'
    by_cases hr : r = r'
    · subst hr
      exact H.mine r B hb hst
    · rw [if_neg hr] at hb'
      exact H.mine r' B' hb' hst'
  · rw [setH_length]; exact H.new
  · intro k B0 B' hk0 hk hd
    cases r with
    | l j => exact H.live k B0 B' hk0 hk hd
    | g j =>
      simp only [setH, List.getElem?_set] at hk
      split at hk
      · rename_i e; subst e
        exact H.live j B0 B hk0 hb (by rw [hst]; simp)
      · exact H.live k B0 B' hk0 hk hd

/-- Where a fresh own block lies. -/
def lay (σ : Sg) (r : R) (x : Nat × Nat) : Sg := fun r' => if r' = r then x else σ r'

theorem agree_lay (σ : Sg) (n m k : Nat) (x : Nat × Nat) (h : m ≤ k) : Agree n m σ (lay σ (.l k) x) := by
  intro r hr
  unfold lay
  split
  · rename_i e; subst e; simp only [R.val, decide_eq_true_eq] at hr; omega
  · rfl

theorem blk_append (h ls : List Blk) (B : Blk) (r : R) : blk h (ls ++ [B]) r = if r = .l ls.length then some B else blk h ls r := by
  cases r with
  | g k => simp [blk]
  | l k =>
    simp only [blk, R.l.injEq]
    by_cases e : k = ls.length
    · subst e; simp
    · rw [if_neg e]
      rcases Nat.lt_or_ge k ls.length with h1 | h1
      · rw [List.getElem?_append_left h1]
      · rw [List.getElem?_eq_none h1, List.getElem?_eq_none (by simp; omega)]

theorem blk_val {h ls : List Blk} {r : R} {B : Blk} (hb : blk h ls r = some B) : r.val h.length ls.length = true := by
  cases r <;> simp only [blk] at hb <;> simp only [R.val, decide_eq_true_eq] <;> exact (List.getElem?_eq_some_iff.1 hb).1

theorem Inv.alloc (H : Inv σ0 h0 w0 σ h ls w) (cells : List S) (T : TypeId) (extra : Array Value) (hv : vals h.length ls.length cells = true) :
    Inv σ0 h0 w0 (lay σ (.l ls.length) (w.heap.size, 0)) h (ls ++ [⟨.rw, cells, cells.length + extra.size⟩]) (w.alloc (.cells (trs σ cells ++ extra) T)) := by
  have hA : Agree h.length ls.length σ (lay σ (.l ls.length) (w.heap.size, 0)) := agree_lay _ _ _ _ _ (Nat.le_refl _)
  have hold : ∀ b, b < w.heap.size → (w.alloc (.cells (trs σ cells ++ extra) T)).heap[b]? = w.heap[b]? := fun b hb => Go.RowKit.Below.heap_alloc _ _ _ hb
  have hlt : ∀ r B, blk h ls r = some B → B.st ≠ .dead → (σ r).1 < w.heap.size := fun r B hb hd => by
    have := H.sim.ok r B hb
    unfold OkBlk at this
    cases hst : B.st with
    | dead => exact absurd hst hd
    | ro => rw [hst] at this; exact this.1
    | rw => rw [hst] at this; exact this.1
  have hsame : ∀ r B, blk h ls r = some B → lay σ (.l ls.length) (w.heap.size, 0) r = σ r := fun r B hb => hA r (blk_val hb)
  refine ⟨⟨?_, ?_, ?_, ?_⟩, ⟨⟨?_, ?_, ?_, ?_⟩, ?_⟩, ?_, ?_, ?_, ?_, ?_⟩
  · intro r B hb
    rw [blk_append] at hb
    by_cases e : r = .l ls.length
    · subst e
      rw [if_pos rfl] at hb
      cases hb
      unfold OkBlk
      simp only
      have hadr : ∀ i, adr (lay σ (.l ls.length) (w.heap.size, 0)) (.l ls.length) i = ⟨w.heap.size, i, none⟩ := fun i => by simp [adr, lay]
      have hsz : (trs σ cells).size = cells.length := by simp [trs]
      refine ⟨by simp [lay], fun i s hi _ => ?_, by omega, fun i hi => ?_⟩
      · rw [hadr, World.cell?_alloc_new]
        have hil : i < cells.length := (List.getElem?_eq_some_iff.1 hi).1
        have hvs : s.val h.length ls.length = true := by
          simp only [vals, List.all_eq_true] at hv; exact hv s (List.mem_of_getElem? hi)
        rw [Array.getElem?_append_left (by omega), S.tr_congr hA s hvs]
        simp [trs, hi]
      · rw [hadr, World.cell?_alloc_new, World.frozen?_alloc_new]
        refine ⟨?_, rfl⟩
        rw [Array.getElem?_eq_getElem (by simp; omega)]; rfl
    · rw [if_neg e] at hb
      refine (H.sim.ok r B hb).move (hsame r B hb) hA (H.sim.bval hb) (by simp) (fun hd => hold _ (hlt r B hb hd))
  · intro r1 r2 B1 B2 hb1 hb2 hne hs1 hs2
    rw [blk_append] at hb1 hb2
    by_cases e1 : r1 = .l ls.length
    · subst e1
      rw [if_neg (Ne.symm hne)] at hb2
      rw [hsame r2 B2 hb2]
      have := hlt r2 B2 hb2 hs2
      simp only [lay, if_true]; omega
    · rw [if_neg e1] at hb1
      rw [hsame r1 B1 hb1]
      have := hlt r1 B1 hb1 (by rw [hs1]; simp)
      by_cases e2 : r2 = .l ls.length
      · subst e2; simp only [lay, if_true]; omega
      · rw [if_neg e2] at hb2
        rw [hsame r2 B2 hb2]
        exact H.sim.sep r1 r2 B1 B2 hb1 hb2 hne hs1 hs2
  · exact H.sim.gval
  · intro X hX
    simp only [List.mem_append, List.mem_singleton] at hX
    rcases hX with h1 | h1
    · exact vals_mono (Nat.le_refl _) (by simp) (H.sim.lval X h1)
    · subst h1; exact vals_mono (Nat.le_refl _) (by simp) hv
  · exact H.kept.same.os
  · exact H.kept.same.tape
  · exact H.kept.same.output
  · have := H.kept.same.size; simp; omega
  · intro b hlt' hno
    rw [hold b (by have := H.kept.same.size; omega)]
    exact H.kept.keep b hlt' hno
  · exact H.len
  · intro k hk; rw [show lay σ (.l ls.length) (w.heap.size, 0) (.g k) = σ (.g k) by simp [lay]]; exact H.old k hk
  · intro r B hb hst
    rw [blk_append] at hb
    by_cases e : r = .l ls.length
    · subst e; right; simp only [lay, if_true]; exact H.kept.same.size
    · rw [if_neg e] at hb; rw [hsame r B hb]; exact H.mine r B hb hst
  · intro k hk hk'
    rw [show lay σ (.l ls.length) (w.heap.size, 0) (.g k) = σ (.g k) by simp [lay]]
    exact H.new k hk hk'
  · exact H.live

end

/-- Scalars are laid over cells, from an offset on. -/
def put (xs : List S) (o : Nat) : List S → List S
  | [] => xs
  | v :: vs => put (xs.set o v) (o + 1) vs

theorem put_length (xs : List S) (o : Nat) (vs : List S) : (put xs o vs).length = xs.length := by
  induction vs generalizing xs o with
  | nil => rfl
  | cons v vs ih => simp [put, ih]

theorem set_same {α : Type} {l : List α} {k : Nat} {x : α} (h : l[k]? = some x) : l.set k x = l := by
  apply List.ext_getElem?
  intro i
  rw [List.getElem?_set]
  split
  · rename_i e; subst e; split
    · exact h.symm
    · rename_i hn; rw [List.getElem?_eq_none (by omega)] at h; cases h
  · rfl

/-- None of them is unknown. -/
def known (vs : List S) : Bool := vs.all fun s => match s with | .u => false | _ => true

theorem S.oneCell {s : S} (h : s ≠ .u) (σ : Sg) : (s.tr σ).oneCell' = true := by
  cases s <;> first | rfl | exact absurd rfl h

theorem storeCells_run {P : Program} {σ0 : Sg} {h0 : List Blk} {w0 : World} {σ : Sg} (r : R) (o : Nat) : ∀ (vs : List S) (i : Nat) (h ls : List Blk) (w : World) (B : Blk),
    Inv σ0 h0 w0 σ h ls w → blk h ls r = some B → B.st = .rw → o + i + vs.length ≤ B.cells.length → known vs = true → vs.all (r.takes h.length ls.length) = true →
    ∃ w', (storeCells (adr σ r o) (vs.map (S.tr σ)) i).run P w = .ok () w' ∧
      Inv σ0 h0 w0 σ (setH h r { B with cells := put B.cells (o + i) vs }) (setL ls r { B with cells := put B.cells (o + i) vs }) w'
  | [], i, h, ls, w, B, H, hb, _, _, _, _ => by
    refine ⟨w, by simp [storeCells], ?_⟩
    have e1 : setH h r { B with cells := put B.cells (o + i) [] } = h := by
      cases r with
      | g k => simp only [setH, put]; exact set_same hb
      | l k => rfl
    have e2 : setL ls r { B with cells := put B.cells (o + i) [] } = ls := by
      cases r with
      | g k => rfl
      | l k => simp only [setL, put]; exact set_same hb
    rw [e1, e2]; exact H
  | v :: vs, i, h, ls, w, B, H, hb, hst, hlen, hk, hv => by
    simp only [List.length_cons] at hlen
    simp only [known, List.all_cons, Bool.and_eq_true] at hk
    simp only [List.all_cons, Bool.and_eq_true] at hv
    have hvu : v ≠ .u := by rintro rfl; simp at hk
    have hok := H.sim.ok r B hb
    unfold OkBlk at hok
    rw [hst] at hok
    have hroom := hok.2.2.2 (o + i) (by have := hok.2.2.1; omega)
    obtain ⟨u0, hu0⟩ := Option.isSome_iff_exists.1 hroom.1
    have H1 := H.store1 hb hst (o := o + i) (by omega) hvu hv.1
    have hb1 : blk (setH h r { B with cells := B.cells.set (o + i) v }) (setL ls r { B with cells := B.cells.set (o + i) v }) r = some { B with cells := B.cells.set (o + i) v } := by
      rw [blk_set, if_pos rfl, hb]; rfl
    obtain ⟨w', hr, H2⟩ := storeCells_run (P := P) r o vs (i + 1) _ _ _ _ H1 hb1 hst (by simp; omega) hk.2 (by
      simp only [setH_length, setL_length]; exact hv.2)
    refine ⟨w', ?_, ?_⟩
    · have hadd : (adr σ r o).add i = adr σ r (o + i) := by
        unfold Addr.add adr; split
        · rename_i e; subst e; rfl
        · simp [Nat.add_assoc]
      simp only [List.map_cons, storeCells, Sem.run_bind, hadd, run_store P w _ _ _ (S.oneCell hvu σ), hu0, hroom.2, Bool.false_eq_true, if_false, Result.andThen_ok]
      exact hr
    · have e1 : ∀ X Y : Blk, setH (setH h r X) r Y = setH h r Y := fun X Y => by cases r <;> simp [setH]
      have e2 : ∀ X Y : Blk, setL (setL ls r X) r Y = setL ls r Y := fun X Y => by cases r <;> simp [setL]
      rw [e1, e2] at H2
      simp only [put]
      rw [show o + i + 1 = o + (i + 1) by omega]
      exact H2

end Go.D
