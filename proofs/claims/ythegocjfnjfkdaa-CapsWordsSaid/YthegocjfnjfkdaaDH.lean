/- Soundness of the instructions that only look: aggregates that are built, slices of slices; all of them together. -/
import Derived.Test.YthegocjfnjfkdaaDG
namespace Go.D
set_option linter.all false
section
variable {P : Program} {o : Oper}

theorem plain_known {v : V} (h : v.plain = true) : known v.cells = true ∧ v ≠ .s .u := by
  cases v with
  | s x => cases x <;> simp [V.plain, V.cells, known] at h ⊢
  | agg xs => exact ⟨h, by simp⟩
  | tup cs => simp [V.plain] at h

theorem plain_cells {v : V} (h : v.plain = true) (σ : Sg) : (v.tr σ).cells = trs σ v.cells := by
  cases v with
  | s x => cases x <;> simp [V.plain, V.cells, V.tr, S.tr, Value.cells, trs] at h ⊢
  | agg xs => rfl
  | tup cs => simp [V.plain] at h

theorem plain_val {v : V} {n m : Nat} (h : v.plain = true) (hv : v.val n m = true) : vals n m v.cells = true := by
  cases v with
  | s x => have hv' : x.val n m = true := hv; simp [vals, V.cells, hv']
  | agg xs => exact hv
  | tup cs => simp [V.plain] at h

theorem vals_put {n m : Nat} : ∀ (vs xs : List S) (o : Nat), vals n m xs = true → vals n m vs = true → vals n m (put xs o vs) = true
  | [], xs, o, h, _ => h
  | v :: vs, xs, o, h, h' => by
    simp only [vals, List.all_cons, Bool.and_eq_true] at h'
    exact vals_put vs (xs.set o v) (o + 1) (vals_set h h'.1) h'.2

theorem trs_put (σ : Sg) : ∀ (vs xs : List S) (o j : Nat), (((trs σ vs).toList.zipIdx j).foldl (fun cs (x : Value × Nat) => cs.setIfInBounds (o + x.2) x.1) (trs σ xs)) = trs σ (put xs (o + j) vs)
  | [], xs, o, j => rfl
  | v :: vs, xs, o, j => by
    have h1 : (trs σ xs).setIfInBounds (o + j) (v.tr σ) = trs σ (xs.set (o + j) v) := by
      simp [trs, List.map_set]
    have := trs_put σ vs (xs.set (o + j) v) o (j + 1)
    simp only [trs, List.map_cons, List.zipIdx_cons, List.foldl_cons] at this ⊢
    rw [put, show o + j + 1 = o + (j + 1) by omega, ← this]
    congr 1

theorem fill_run {σ : Sg} {t : List V} {a : Act} {n m : Nat} (hT : TRel σ t a.tmps n m) (place place' : Nat → Option (Nat × Nat)) (hpl : ∀ i x, place i = some x → place' i = some x) : ∀ (parts : List (Nat × Operand)) (qs : List (Nat × Nat × Opd)) (z z' : List S),
    partsOf P place parts = some qs → fillP t qs z = some z' → vals n m z = true → Instr.fill place' (trs σ z) (parts.map fun x => (x.1, a.eval x.2)) = some (trs σ z') ∧ vals n m z' = true
  | [], qs, z, z', hq, hz, hv => by
    simp only [partsOf, Option.some.injEq] at hq; subst hq
    simp only [fillP, Option.some.injEq] at hz; subst hz
    exact ⟨rfl, hv⟩
  | (i, x) :: parts, qs, z, z', hq, hz, hv => by
    simp only [partsOf] at hq
    split at hq
    · rename_i off size y l h1 h2 h3
      simp only [Option.some.injEq] at hq
      subst hq
      simp only [fillP] at hz
      split at hz
      · rename_i hc
        simp only [Bool.and_eq_true, beq_iff_eq, decide_eq_true_eq] at hc
        obtain ⟨⟨c1, c2⟩, c3⟩ := hc
        obtain ⟨e1, e2⟩ := ev_is hT h2
        have hx := e2.eq (plain_known c1).2
        have ih := fill_run hT place place' hpl parts l _ z' h3 hz (vals_put _ _ _ hv (plain_val c1 e1))
        refine ⟨?_, ih.2⟩
        simp only [List.map_cons, Instr.fill, hpl i _ h1, hx, plain_cells c1 σ, trs_size]
        rw [if_neg (by simp; omega)]
        have := trs_put σ (ev t y).cells z off 0
        rw [← ih.1]
        congr 1
        rw [← Array.foldl_toList, Array.toList_zipIdx]
        simpa using this
      · cases hz
    · cases hq

theorem zeroOf_run {T : TypeId} {z : List S} (h : zeroOf P T = some z) (σ : Sg) : ∃ i v, P.info? T = some i ∧ i.zero = some v ∧ v.cells = trs σ z ∧ vals 0 0 z = true ∧ known z = true ∧ z.length = i.size := by
  unfold zeroOf at h
  split at h
  · rename_i i hi
    split at h
    · rename_i v hz
      split at h
      · rename_i l hl
        split at h
        · rename_i hs
          cases h
          have := ofSs_tr hl σ
          exact ⟨i, v, hi, hz, by simp [trs, this.1], this.2.1, this.2.2, hs⟩
        · cases h
      · cases h
    · cases h
  · cases h

theorem looks_build_struct {T : TypeId} {parts : Array (Nat × Operand)} {fs : Array Field} {z : List S} {qs : List (Nat × Nat × Opd)} (ho : o.op = .build T parts) (hz : zeroOf P T = some z)
    (hu : P.underlying T = some (.struct fs)) (hall : allSized P fs.toList = true) (hq : partsOf P (fieldPlaces P fs.toList) parts.toList = some qs) : Looks P o (.build z qs) := by
  intro Γ σ t a ls h K hT hV hK
  simp only [iwp] at hK
  split at hK
  · rename_i z' hz'
    obtain ⟨i, v, hi, hiz, hcells, hvz, _, _⟩ := zeroOf_run hz σ
    have hpl : ∃ places, fs.toList.mapM (fun f => (P.info? f.type).map fun i => (f.offset, i.size)) = some places ∧ ∀ j x, fieldPlaces P fs.toList j = some x → places.toArray[j]? = some x := by
      clear hz' hK hq
      generalize fs.toList = l at hall
      induction l with
      | nil => exact ⟨[], rfl, fun j x hx => by simp [fieldPlaces] at hx⟩
      | cons f l ih =>
        simp only [allSized, List.all_cons, Bool.and_eq_true] at hall
        obtain ⟨ps, h1, h2⟩ := ih hall.2
        obtain ⟨k, hk⟩ := Option.isSome_iff_exists.1 hall.1
        refine ⟨(f.offset, k.size) :: ps, by simp [List.mapM_cons, hk, h1], fun j x hx => ?_⟩
        cases j with
        | zero => simp only [fieldPlaces, List.getElem?_cons_zero, hk, Option.map_some, Option.some.injEq] at hx; simp [hx]
        | succ j => simp only [fieldPlaces, List.getElem?_cons_succ] at hx; have := h2 j x hx; simpa using this
    obtain ⟨places, hp1, hp2⟩ := hpl
    obtain ⟨f1, f2⟩ := fill_run hT (fieldPlaces P fs.toList) (fun j => places.toArray[j]?) hp2 parts.toList qs z z' hq hz' (vals_mono (Nat.zero_le _) (Nat.zero_le _) hvz)
    refine ⟨_, _, hK, f2, Is.mk _, fun w _ => ?_⟩
    have hb : P.built T (parts.map fun (x : Nat × Operand) => (x.1, a.eval x.2)).toList = some (trs σ z') := by
      simp only [Program.built, hi, hu, hiz, hp1, hcells, Array.toList_map]
      exact f1
    have := run_build w T _ _ hb
    simp [execOp, ho, this, V.tr]
  · exact hK.elim

theorem looks_build_array {T e : TypeId} {n : Nat} {parts : Array (Nat × Operand)} {i : TypeInfo} {z : List S} {qs : List (Nat × Nat × Opd)} (ho : o.op = .build T parts) (hz : zeroOf P T = some z)
    (hu : P.underlying T = some (.array n e)) (hi : P.info? e = some i) (hq : partsOf P (fun j => some (j * i.size, i.size)) parts.toList = some qs) : Looks P o (.build z qs) := by
  intro Γ σ t a ls h K hT hV hK
  simp only [iwp] at hK
  split at hK
  · rename_i z' hz'
    obtain ⟨k, v, hk, hiz, hcells, hvz, _, _⟩ := zeroOf_run hz σ
    obtain ⟨f1, f2⟩ := fill_run hT _ (fun j => some (j * i.size, i.size)) (fun _ _ h => h) parts.toList qs z z' hq hz' (vals_mono (Nat.zero_le _) (Nat.zero_le _) hvz)
    refine ⟨_, _, hK, f2, Is.mk _, fun w _ => ?_⟩
    have hb : P.built T (parts.map fun (x : Nat × Operand) => (x.1, a.eval x.2)).toList = some (trs σ z') := by
      simp only [Program.built, hk, hu, hiz, hi, hcells, Array.toList_map]
      exact f1
    have := run_build w T _ _ hb
    simp [execOp, ho, this, V.tr]
  · exact hK.elim

/-- A bound of a slice expression. -/
theorem bnd_run {σ : Sg} {t : List V} {a : Act} {n m : Nat} (hT : TRel σ t a.tmps n m) {x : Option Operand} {y : Option Opd} (hx : compB x = some y) {d : Int} {l : Int} (hl : bnd d t y = some l) :
    (x = none ∧ l = d) ∨ ∃ z k, x = some z ∧ a.eval z = .int k l := by
  cases x with
  | none => simp only [compB, Option.some.injEq] at hx; subst hx; simp only [bnd, Option.some.injEq] at hl; exact .inl ⟨rfl, hl.symm⟩
  | some z =>
    simp only [compB] at hx
    cases h1 : compX z with
    | none => simp [h1] at hx
    | some z' =>
      simp only [h1, Option.map_some, Option.some.injEq] at hx
      subst hx
      simp only [bnd] at hl
      obtain ⟨_, h2⟩ := ev_is hT h1
      split at hl
      · rename_i k n hq
        cases hl
        rw [hq] at h2
        exact .inr ⟨z, k, rfl, h2.eq (by simp)⟩
      · cases hl

theorem sliceBounds_run (w : World) (isSl : Bool) (len cap : Nat) (lo hi : Option Value) {l u : Int} (hl : (lo = none ∧ l = 0) ∨ ∃ k, lo = some (.int k l)) (hu : (hi = none ∧ u = len) ∨ ∃ k, hi = some (.int k u))
    (h0 : 0 ≤ l) (h1 : l ≤ u) (h2 : u ≤ cap) : (Instr.sliceBounds isSl len cap lo hi none).run P w = .ok (l.toNat, u.toNat, cap) w := by
  have e1 : ((u.toNat : Nat) : Int) = u := Int.toNat_of_nonneg (by omega)
  rcases hu with ⟨rfl, rfl⟩ | ⟨k, rfl⟩
  · rcases hl with ⟨rfl, rfl⟩ | ⟨k', rfl⟩
    · simp [Instr.sliceBounds]
    · simp [Instr.sliceBounds, Instr.sliceBound, asIntOf, h0, h1]
  · rcases hl with ⟨rfl, rfl⟩ | ⟨k', rfl⟩
    · simp [Instr.sliceBounds, Instr.sliceBound, asIntOf, h2, h1]
    · simp [Instr.sliceBounds, Instr.sliceBound, asIntOf, h0, h2, e1, h1, (by omega : 0 ≤ u)]

theorem slice_addr (σ : Sg) (r : R) (off cap l k : Nat) : (if cap = l then adr σ r off else (adr σ r off).add (l * k)) = adr σ r (if cap = l then off else off + l * k) := by
  split
  · rfl
  · rw [adr_add]

theorem looks_slc {T e : TypeId} {x : Operand} {x' : Opd} {lo hi : Option Operand} {lo' hi' : Option Opd} {arr : Option Nat} {k : TypeInfo} (ho : o.op = .slice T x lo hi none)
    (hu : match arr with | some n => P.underlying T = some (.array n e) | none => P.underlying T = some (.slice e)) (hk : P.info? e = some k)
    (hx : compX x = some x') (hlo : compB lo = some lo') (hhi : compB hi = some hi') : Looks P o (.slc arr k.size x' lo' hi') := by
  intro Γ σ t a ls h K hT hV hK
  obtain ⟨h1, h2⟩ := ev_is hT hx
  simp only [iwp] at hK
  split at hK
  · rename_i n r off hq
    split at hK
    · rename_i l u hl hh
      obtain ⟨⟨g0, g1, g2⟩, hK⟩ := hK
      rw [hq] at h1 h2
      have hv := h2.eq (by simp)
      simp only [V.tr, S.tr] at hv
      have hL := bnd_run hT hlo hl
      have hU := bnd_run hT hhi hh
      refine ⟨_, _, hK, h1, Is.mk _, fun w _ => ?_⟩
      have hb := sliceBounds_run (P := P) w false n n (lo.map a.eval) (hi.map a.eval) (l := l) (u := u)
        (by rcases hL with ⟨rfl, h⟩ | ⟨z, k', rfl, h⟩; exact .inl ⟨rfl, h⟩; exact .inr ⟨k', by simp [h]⟩)
        (by rcases hU with ⟨rfl, h⟩ | ⟨z, k', rfl, h⟩; exact .inl ⟨rfl, h⟩; exact .inr ⟨k', by simp [h]⟩) g0 g1 g2
      simp only at hu
      simp only [execOp, ho, hv, Instr.sliceAt, Sem.run_bind, run_underlying hu, Result.andThen_ok, Instr.sureAddr, Sem.run_pure, Option.map_none, hb, sizeOf, typeInfo, run_program, hk, slice_addr, V.tr, S.tr]
    · exact hK.elim
  · rename_i r off n c hq
    split at hK
    · rename_i l u hl hh
      obtain ⟨⟨g0, g1, g2⟩, hK⟩ := hK
      rw [hq] at h1 h2
      have hv := h2.eq (by simp)
      simp only [V.tr, S.tr] at hv
      have hL := bnd_run hT hlo hl
      have hU := bnd_run hT hhi hh
      refine ⟨_, _, hK, h1, Is.mk _, fun w _ => ?_⟩
      have hb := sliceBounds_run (P := P) w true n c (lo.map a.eval) (hi.map a.eval) (l := l) (u := u)
        (by rcases hL with ⟨rfl, h⟩ | ⟨z, k', rfl, h⟩; exact .inl ⟨rfl, h⟩; exact .inr ⟨k', by simp [h]⟩)
        (by rcases hU with ⟨rfl, h⟩ | ⟨z, k', rfl, h⟩; exact .inl ⟨rfl, h⟩; exact .inr ⟨k', by simp [h]⟩) g0 g1 g2
      simp only at hu
      have hsa : (if c = l.toNat then some (adr σ r off) else (some (adr σ r off)).map (·.add (l.toNat * k.size))) = some (adr σ r (if c = l.toNat then off else off + l.toNat * k.size)) := by
        rw [← slice_addr]; split <;> rfl
      simp only [execOp, ho, hv, Instr.sliceAt, Instr.slice, Sem.run_bind, run_underlying hu, Result.andThen_ok, Sem.run_pure, Option.map_none, hb, sizeOf, typeInfo, run_program, hk, hsa, V.tr, S.tr]
    · exact hK.elim
  · rename_i hq
    split at hK
    · rename_i l u hl hh
      obtain ⟨⟨rfl, rfl⟩, hK⟩ := hK
      rw [hq] at h1 h2
      have hv := h2.eq (by simp)
      simp only [V.tr, S.tr] at hv
      have hL := bnd_run hT hlo hl
      have hU := bnd_run hT hhi hh
      refine ⟨_, _, hK, h1, Is.mk _, fun w _ => ?_⟩
      have hb := sliceBounds_run (P := P) w true 0 0 (lo.map a.eval) (hi.map a.eval) (l := 0) (u := 0)
        (by rcases hL with ⟨rfl, h⟩ | ⟨z, k', rfl, h⟩; exact .inl ⟨rfl, h⟩; exact .inr ⟨k', by simp [h]⟩)
        (by rcases hU with ⟨rfl, h⟩ | ⟨z, k', rfl, h⟩; exact .inl ⟨rfl, h⟩; exact .inr ⟨k', by simp [h]⟩) (by omega) (by omega) (by omega)
      simp only at hu
      simp only [execOp, ho, hv, Instr.sliceAt, Instr.slice, Sem.run_bind, run_underlying hu, Result.andThen_ok, Sem.run_pure, Option.map_none, hb, sizeOf, typeInfo, run_program, hk, V.tr, S.tr]
      rfl
    · exact hK.elim
  · exact hK.elim

end
end Go.D
