/- Instructions that make memory and write it. -/
import Derived.Test.YtpmobbehdpgnbaaZ3
/- Soundness of the instructions that only look: aggregates that are built, slices of slices; all of them together. -/
namespace Go.D
set_option linter.all false
variable [Tabs]
section
variable {P : Program} {o : Oper}

theorem plain_known {v : V} (h : v.plain = true) : known v.cells = true ∧ v ≠ .s .u := by
  cases v with
  | s x => cases x <;> simp [V.plain, V.cells, known] at h ⊢
  | agg xs => exact ⟨h, by simp⟩
  | tup cs => simp [V.plain] at h

theorem plain_cells {v : V} (h : v.plain = true) (σ : Sg) : (v.tr σ).cells = trs σ v.cells := by
  cases v with
  | s x => cases x <;> simp [V.plain, V.cells, V.tr, S.tr, Value.cells, trs] at h ⊢
  | agg xs => rfl
  | tup cs => simp [V.plain] at h

theorem plain_val {v : V} {n m : Nat} (h : v.plain = true) (hv : v.val n m = true) : vals n m v.cells = true := by
  cases v with
  | s x => have hv' : x.val n m = true := hv; simp [vals, V.cells, hv']
  | agg xs => exact hv
  | tup cs => simp [V.plain] at h

theorem vals_put {n m : Nat} : ∀ (vs xs : List S) (o : Nat), vals n m xs = true → vals n m vs = true → vals n m (put xs o vs) = true
  | [], xs, o, h, _ => h
  | v :: vs, xs, o, h, h' => by
    simp only [vals, List.all_cons, Bool.and_eq_true] at h'
    exact vals_put vs (xs.set o v) (o + 1) (vals_set h h'.1) h'.2

theorem trs_put (σ : Sg) : ∀ (vs xs : List S) (o j : Nat), (((trs σ vs).toList.zipIdx j).foldl (fun cs (x : Value × Nat) => cs.setIfInBounds (o + x.2) x.1) (trs σ xs)) = trs σ (put xs (o + j) vs)
  | [], xs, o, j => rfl
  | v :: vs, xs, o, j => by
    have h1 : (trs σ xs).setIfInBounds (o + j) (v.tr σ) = trs σ (xs.set (o + j) v) := by
      simp [trs, List.map_set]
    have := trs_put σ vs (xs.set (o + j) v) o (j + 1)
    simp only [trs, List.map_cons, List.zipIdx_cons, List.foldl_cons] at this ⊢
    rw [put, show o + j + 1 = o + (j + 1) by omega, ← this]
    congr 1

theorem fill_run {σ : Sg} {t : List V} {a : Act} {n m : Nat} (hT : TRel σ t a.tmps n m) (place place' : Nat → Option (Nat × Nat)) (hpl : ∀ i x, place i = some x → place' i = some x) : ∀ (parts : List (Nat × Operand)) (qs : List (Nat × Nat × Opd)) (z z' : List S),
    partsOf P place parts = some qs → fillP t qs z = some z' → vals n m z = true → Instr.fill place' (trs σ z) (parts.map fun x => (x.1, a.eval x.2)) = some (trs σ z') ∧ vals n m z' = true
  | [], qs, z, z', hq, hz, hv => by
    simp only [partsOf, Option.some.injEq] at hq; subst hq
    simp only [fillP, Option.some.injEq] at hz; subst hz
    exact ⟨rfl, hv⟩
  | (i, x) :: parts, qs, z, z', hq, hz, hv => by
    simp only [partsOf] at hq
    split at hq
    · rename_i off size y l h1 h2 h3
      simp only [Option.some.injEq] at hq
      subst hq
      simp only [fillP] at hz
      split at hz
      · rename_i hc
        simp only [Bool.and_eq_true, beq_iff_eq, decide_eq_true_eq] at hc
        obtain ⟨⟨c1, c2⟩, c3⟩ := hc
        obtain ⟨e1, e2⟩ := ev_is hT h2
        have hx := e2.eq (plain_known c1).2
        have ih := fill_run hT place place' hpl parts l _ z' h3 hz (vals_put _ _ _ hv (plain_val c1 e1))
        refine ⟨?_, ih.2⟩
        simp only [List.map_cons, Instr.fill, hpl i _ h1, hx, plain_cells c1 σ, trs_size]
        rw [if_neg (by simp; omega)]
        have := trs_put σ (ev t y).cells z off 0
        rw [← ih.1]
        congr 1
        rw [← Array.foldl_toList, Array.toList_zipIdx]
        simpa using this
      · cases hz
    · cases hq

theorem zeroOf_run {T : TypeId} {z : List S} (h : zeroOf P T = some z) (σ : Sg) : ∃ i v, P.info? T = some i ∧ i.zero = some v ∧ v.cells = trs σ z ∧ vals 0 0 z = true ∧ known z = true ∧ z.length = i.size := by
  unfold zeroOf at h
  split at h
  · rename_i i hi
    split at h
    · rename_i v hz
      split at h
      · rename_i l hl
        split at h
        · rename_i hs
          cases h
          have := ofSs_tr hl σ
          exact ⟨i, v, hi, hz, by simp [trs, this.1], this.2.1, this.2.2, hs⟩
        · cases h
      · cases h
    · cases h
  · cases h

theorem looks_build_struct {T : TypeId} {parts : Array (Nat × Operand)} {fs : Array Field} {z : List S} {qs : List (Nat × Nat × Opd)} (ho : o.op = .build T parts) (hz : zeroOf P T = some z)
    (hu : P.underlying T = some (.struct fs)) (hall : allSized P fs.toList = true) (hq : partsOf P (fieldPlaces P fs.toList) parts.toList = some qs) : Looks P o (.build z qs) := by
  intro Γ σ t a ls h K hT hV hK
  simp only [iwp] at hK
  split at hK
  · rename_i z' hz'
    obtain ⟨i, v, hi, hiz, hcells, hvz, _, _⟩ := zeroOf_run hz σ
    have hpl : ∃ places, fs.toList.mapM (fun f => (P.info? f.type).map fun i => (f.offset, i.size)) = some places ∧ ∀ j x, fieldPlaces P fs.toList j = some x → places.toArray[j]? = some x := by
      clear hz' hK hq
      generalize fs.toList = l at hall
      induction l with
      | nil => exact ⟨[], rfl, fun j x hx => by simp [fieldPlaces] at hx⟩
      | cons f l ih =>
        simp only [allSized, List.all_cons, Bool.and_eq_true] at hall
        obtain ⟨ps, h1, h2⟩ := ih hall.2
        obtain ⟨k, hk⟩ := Option.isSome_iff_exists.1 hall.1
        refine ⟨(f.offset, k.size) :: ps, by simp [List.mapM_cons, hk, h1], fun j x hx => ?_⟩
        cases j with
        | zero => simp only [fieldPlaces, List.getElem?_cons_zero, hk, Option.map_some, Option.some.injEq] at hx; simp [hx]
        | succ j => simp only [fieldPlaces, List.getElem?_cons_succ] at hx; have := h2 j x hx; simpa using this
    obtain ⟨places, hp1, hp2⟩ := hpl
    obtain ⟨f1, f2⟩ := fill_run hT (fieldPlaces P fs.toList) (fun j => places.toArray[j]?) hp2 parts.toList qs z z' hq hz' (vals_mono (Nat.zero_le _) (Nat.zero_le _) hvz)
    refine ⟨_, _, hK, f2, Is.mk _, fun w _ => ?_⟩
    have hb : P.built T (parts.map fun (x : Nat × Operand) => (x.1, a.eval x.2)).toList = some (trs σ z') := by
      simp only [Program.built, hi, hu, hiz, hp1, hcells, Array.toList_map]
      exact f1
    have := run_build w T _ _ hb
    simp [execOp, ho, this, V.tr]
  · exact hK.elim

theorem looks_build_array {T e : TypeId} {n : Nat} {parts : Array (Nat × Operand)} {i : TypeInfo} {z : List S} {qs : List (Nat × Nat × Opd)} (ho : o.op = .build T parts) (hz : zeroOf P T = some z)
    (hu : P.underlying T = some (.array n e)) (hi : P.info? e = some i) (hq : partsOf P (fun j => some (j * i.size, i.size)) parts.toList = some qs) : Looks P o (.build z qs) := by
  intro Γ σ t a ls h K hT hV hK
  simp only [iwp] at hK
  split at hK
  · rename_i z' hz'
    obtain ⟨k, v, hk, hiz, hcells, hvz, _, _⟩ := zeroOf_run hz σ
    obtain ⟨f1, f2⟩ := fill_run hT _ (fun j => some (j * i.size, i.size)) (fun _ _ h => h) parts.toList qs z z' hq hz' (vals_mono (Nat.zero_le _) (Nat.zero_le _) hvz)
    refine ⟨_, _, hK, f2, Is.mk _, fun w _ => ?_⟩
    have hb : P.built T (parts.map fun (x : Nat × Operand) => (x.1, a.eval x.2)).toList = some (trs σ z') := by
      simp only [Program.built, hk, hu, hiz, hi, hcells, Array.toList_map]
      exact f1
    have := run_build w T _ _ hb
    simp [execOp, ho, this, V.tr]
  · exact hK.elim

theorem bnd_run {σ : Sg} {t : List V} {a : Act} {n m : Nat} (hT : TRel σ t a.tmps n m) {x : Option Operand} {y : Option Opd} (hx : compB x = some y) {d : Int} {l : Int} (hl : bnd d t y = some l) :
    (x = none ∧ l = d) ∨ ∃ z k, x = some z ∧ a.eval z = .int k l := by
  cases x with
  | none => simp only [compB, Option.some.injEq] at hx; subst hx; simp only [bnd, Option.some.injEq] at hl; exact .inl ⟨rfl, hl.symm⟩
  | some z =>
    simp only [compB] at hx
    cases h1 : compX z with
    | none => simp [h1] at hx
    | some z' =>
      simp only [h1, Option.map_some, Option.some.injEq] at hx
      subst hx
      simp only [bnd] at hl
      obtain ⟨_, h2⟩ := ev_is hT h1
      split at hl
      · rename_i k n hq
        cases hl
        rw [hq] at h2
        exact .inr ⟨z, k, rfl, h2.eq (by simp)⟩
      · cases hl

theorem sliceBounds_run (w : World) (isSl : Bool) (len cap : Nat) (lo hi : Option Value) {l u : Int} (hl : (lo = none ∧ l = 0) ∨ ∃ k, lo = some (.int k l)) (hu : (hi = none ∧ u = len) ∨ ∃ k, hi = some (.int k u))
    (h0 : 0 ≤ l) (h1 : l ≤ u) (h2 : u ≤ cap) : (Instr.sliceBounds isSl len cap lo hi none).run P w = .ok (l.toNat, u.toNat, cap) w := by
  have e1 : ((u.toNat : Nat) : Int) = u := Int.toNat_of_nonneg (by omega)
  rcases hu with ⟨rfl, rfl⟩ | ⟨k, rfl⟩
  · rcases hl with ⟨rfl, rfl⟩ | ⟨k', rfl⟩
    · simp [Instr.sliceBounds]
    · simp [Instr.sliceBounds, Instr.sliceBound, asIntOf, h0, h1]
  · rcases hl with ⟨rfl, rfl⟩ | ⟨k', rfl⟩
    · simp [Instr.sliceBounds, Instr.sliceBound, asIntOf, h2, h1]
    · simp [Instr.sliceBounds, Instr.sliceBound, asIntOf, h0, h2, e1, h1, (by omega : 0 ≤ u)]

theorem slice_addr (σ : Sg) (r : R) (off cap l k : Nat) : (if cap = l then adr σ r off else (adr σ r off).add (l * k)) = adr σ r (if cap = l then off else off + l * k) := by
  split
  · rfl
  · rw [adr_add]

theorem looks_slc {T e : TypeId} {x : Operand} {x' : Opd} {lo hi : Option Operand} {lo' hi' : Option Opd} {arr : Option Nat} {k : TypeInfo} (ho : o.op = .slice T x lo hi none)
    (hu : match arr with | some n => P.underlying T = some (.array n e) | none => P.underlying T = some (.slice e)) (hk : P.info? e = some k)
    (hx : compX x = some x') (hlo : compB lo = some lo') (hhi : compB hi = some hi') : Looks P o (.slc arr k.size x' lo' hi') := by
  intro Γ σ t a ls h K hT hV hK
  obtain ⟨h1, h2⟩ := ev_is hT hx
  simp only [iwp] at hK
  split at hK
  · rename_i n r off hq
    split at hK
    · rename_i l u hl hh
      obtain ⟨⟨g0, g1, g2⟩, hK⟩ := hK
      rw [hq] at h1 h2
      have hv := h2.eq (by simp)
      simp only [V.tr, S.tr] at hv
      have hL := bnd_run hT hlo hl
      have hU := bnd_run hT hhi hh
      refine ⟨_, _, hK, h1, Is.mk _, fun w _ => ?_⟩
      have hb := sliceBounds_run (P := P) w false n n (lo.map a.eval) (hi.map a.eval) (l := l) (u := u)
        (by rcases hL with ⟨rfl, h⟩ | ⟨z, k', rfl, h⟩; exact .inl ⟨rfl, h⟩; exact .inr ⟨k', by simp [h]⟩)
        (by rcases hU with ⟨rfl, h⟩ | ⟨z, k', rfl, h⟩; exact .inl ⟨rfl, h⟩; exact .inr ⟨k', by simp [h]⟩) g0 g1 g2
      simp only at hu
      simp only [execOp, ho, hv, Instr.sliceAt, Sem.run_bind, run_underlying hu, Result.andThen_ok, Instr.sureAddr, Sem.run_pure, Option.map_none, hb, sizeOf, typeInfo, run_program, hk, slice_addr, V.tr, S.tr]
    · exact hK.elim
  · rename_i r off n c hq
    split at hK
    · rename_i l u hl hh
      obtain ⟨⟨g0, g1, g2⟩, hK⟩ := hK
      rw [hq] at h1 h2
      have hv := h2.eq (by simp)
      simp only [V.tr, S.tr] at hv
      have hL := bnd_run hT hlo hl
      have hU := bnd_run hT hhi hh
      refine ⟨_, _, hK, h1, Is.mk _, fun w _ => ?_⟩
      have hb := sliceBounds_run (P := P) w true n c (lo.map a.eval) (hi.map a.eval) (l := l) (u := u)
        (by rcases hL with ⟨rfl, h⟩ | ⟨z, k', rfl, h⟩; exact .inl ⟨rfl, h⟩; exact .inr ⟨k', by simp [h]⟩)
        (by rcases hU with ⟨rfl, h⟩ | ⟨z, k', rfl, h⟩; exact .inl ⟨rfl, h⟩; exact .inr ⟨k', by simp [h]⟩) g0 g1 g2
      simp only at hu
      have hsa : (if c = l.toNat then some (adr σ r off) else (some (adr σ r off)).map (·.add (l.toNat * k.size))) = some (adr σ r (if c = l.toNat then off else off + l.toNat * k.size)) := by
        rw [← slice_addr]; split <;> rfl
      simp only [execOp, ho, hv, Instr.sliceAt, Instr.slice, Sem.run_bind, run_underlying hu, Result.andThen_ok, Sem.run_pure, Option.map_none, hb, sizeOf, typeInfo, run_program, hk, hsa, V.tr, S.tr]
    · exact hK.elim
  · rename_i hq
    split at hK
    · rename_i l u hl hh
      obtain ⟨⟨rfl, rfl⟩, hK⟩ := hK
      rw [hq] at h1 h2
      have hv := h2.eq (by simp)
      simp only [V.tr, S.tr] at hv
      have hL := bnd_run hT hlo hl
      have hU := bnd_run hT hhi hh
      refine ⟨_, _, hK, h1, Is.mk _, fun w _ => ?_⟩
      have hb := sliceBounds_run (P := P) w true 0 0 (lo.map a.eval) (hi.map a.eval) (l := 0) (u := 0)
        (by rcases hL with ⟨rfl, h⟩ | ⟨z, k', rfl, h⟩; exact .inl ⟨rfl, h⟩; exact .inr ⟨k', by simp [h]⟩)
        (by rcases hU with ⟨rfl, h⟩ | ⟨z, k', rfl, h⟩; exact .inl ⟨rfl, h⟩; exact .inr ⟨k', by simp [h]⟩) (by omega) (by omega) (by omega)
      simp only at hu
      simp only [execOp, ho, hv, Instr.sliceAt, Instr.slice, Sem.run_bind, run_underlying hu, Result.andThen_ok, Sem.run_pure, Option.map_none, hb, sizeOf, typeInfo, run_program, hk, V.tr, S.tr]
      rfl
    · exact hK.elim
  · exact hK.elim

end
end Go.D

/- Instructions that only look, all together; instructions that make and write. -/
namespace Go.D
set_option linter.all false
variable [Tabs]

section
variable {P : Program} {o : Oper}

theorem looks_all {op : I} (hc : compI P o = some op) (hs : op.still = true) : Looks P o op := by
  unfold compI at hc
  split at hc
  · rename_i x ho
    cases hx : compX x with
    | none => simp [hx] at hc
    | some y => simp only [hx, Option.map_some, Option.some.injEq] at hc; subst hc; exact looks_mv (.inl ho) hx
  · rename_i x ho
    cases hx : compX x with
    | none => simp [hx] at hc
    | some y => simp only [hx, Option.map_some, Option.some.injEq] at hc; subst hc; exact looks_mv (.inr ho) hx
  · rename_i c x y ho
    split at hc
    · rename_i c' x' y' h1 h2 h3; cases hc; exact looks_pick ho h1 h2 h3
    · cases hc
  · rename_i T ho
    cases hz : zeroOf P T with
    | none => simp [hz] at hc
    | some z => simp only [hz, Option.map_some, Option.some.injEq] at hc; subst hc; cases hs
  · rename_i T x ho
    cases hx : compX x with
    | none => simp [hx] at hc
    | some y => simp only [hx, Option.map_some, Option.some.injEq] at hc; subst hc; cases hs
  · rename_i T parts ho
    split at hc
    · rename_i z fs hz hu
      split at hc
      · rename_i hall
        cases hq : partsOf P (fieldPlaces P fs.toList) parts.toList with
        | none => simp [hq] at hc
        | some qs => simp only [hq, Option.map_some, Option.some.injEq] at hc; subst hc; exact looks_build_struct ho hz hu hall hq
      · cases hc
    · rename_i z n e hz hu
      split at hc
      · rename_i i hi
        cases hq : partsOf P (fun j => some (j * i.size, i.size)) parts.toList with
        | none => simp [hq] at hc
        | some qs => simp only [hq, Option.map_some, Option.some.injEq] at hc; subst hc; exact looks_build_array ho hz hu hi hq
      · cases hc
    · cases hc
  · rename_i T n parts ho
    split at hc
    · rename_i e hu
      split at hc
      · rename_i i z hi hz
        split at hc
        · cases hq : partsOf P (fun j => some (j * i.size, i.size)) parts.toList with
          | none => simp [hq] at hc
          | some qs => simp only [hq, Option.map_some, Option.some.injEq] at hc; subst hc; cases hs
        · cases hc
      · cases hc
    · cases hc
  · rename_i T x ho
    split at hc
    · rename_i y n hx hn; cases hc; exact looks_ld ho hn hx
    · cases hc
  · rename_i T x y ho
    split at hc
    · cases hc; cases hs
    · cases hc
  · rename_i x ho
    cases hx : compX x with
    | none => simp [hx] at hc
    | some y => simp only [hx, Option.map_some, Option.some.injEq] at hc; subst hc; exact looks_nil ho hx
  · rename_i b T x y U ho
    split at hc
    · rename_i x' y' hx hy
      split at hc
      · split at hc
        · rename_i fs hu
          split at hc
          · rename_i l hl
            split at hc
            · cases hc
            · rename_i hg; cases hc; exact looks_eqa (q := false) ho (.inl ⟨_, hu⟩) hl (by simpa using hg) hx hy
          · cases hc
        · rename_i n e hu
          split at hc
          · rename_i l hl
            split at hc
            · cases hc
            · rename_i hg; cases hc; exact looks_eqa (q := false) ho (.inr ⟨_, _, hu⟩) hl (by simpa using hg) hx hy
          · cases hc
        · rename_i e hu
          split at hc
          · rename_i hn; cases hc; exact looks_eqn_ptr (q := false) ho hu hn hx
          · cases hc
        · rename_i e hu
          split at hc
          · rename_i hn; cases hc; exact looks_eqn_sl (q := false) ho hu hn hx
          · cases hc
        · rename_i hu; cases hc; exact looks_eqb (q := false) ho hu hx hy
        · cases hc; exact looks_bin ho hx hy
        · cases hc
      · split at hc
        · rename_i fs hu
          split at hc
          · rename_i l hl
            split at hc
            · cases hc
            · rename_i hg; cases hc; exact looks_eqa (q := true) ho (.inl ⟨_, hu⟩) hl (by simpa using hg) hx hy
          · cases hc
        · rename_i n e hu
          split at hc
          · rename_i l hl
            split at hc
            · cases hc
            · rename_i hg; cases hc; exact looks_eqa (q := true) ho (.inr ⟨_, _, hu⟩) hl (by simpa using hg) hx hy
          · cases hc
        · rename_i e hu
          split at hc
          · rename_i hn; cases hc; exact looks_eqn_ptr (q := true) ho hu hn hx
          · cases hc
        · rename_i e hu
          split at hc
          · rename_i hn; cases hc; exact looks_eqn_sl (q := true) ho hu hn hx
          · cases hc
        · rename_i hu; cases hc; exact looks_eqb (q := true) ho hu hx hy
        · cases hc; exact looks_bin ho hx hy
        · cases hc
      · cases hc; exact looks_bin ho hx hy
    · cases hc
  · rename_i u T x ho
    cases hx : compX x with
    | none => simp [hx] at hc
    | some y => simp only [hx, Option.map_some, Option.some.injEq] at hc; subst hc; exact looks_un ho hx
  · rename_i src dst x ho
    split at hc
    · rename_i d k y h1 h2 h3; cases hc; exact looks_conv ho h1 h2 h3
    · cases hc
  · rename_i f first caps ho
    split at hc
    · rename_i hf
      cases hx : compXs caps.toList with
      | none => simp [hx] at hc
      | some ys => simp only [hx, Option.map_some, Option.some.injEq] at hc; subst hc; exact looks_mkf ho hf hx
    · cases hc
  · rename_i T n c ho
    split at hc
    · split at hc
      · split at hc
        · cases hc
        · cases hc; cases hs
      · cases hc
    · cases hc
  · rename_i T x lo hi mx ho
    split at hc
    · cases hc
    · split at hc
      · rename_i x' lo' hi' h1 h2 h3
        split at hc
        · rename_i e hu
          cases hk : P.info? e with
          | none => simp [hk] at hc
          | some k => simp only [hk, Option.map_some, Option.some.injEq] at hc; subst hc; exact looks_slc (arr := none) ho hu hk h1 h2 h3
        · rename_i n e hu
          cases hk : P.info? e with
          | none => simp [hk] at hc
          | some k => simp only [hk, Option.map_some, Option.some.injEq] at hc; subst hc; exact looks_slc (arr := some n) ho hu hk h1 h2 h3
        · cases hc
      · cases hc
  · rename_i T x f ho
    split at hc
    · rename_i fs y hu hx
      split at hc
      · rename_i fl hf
        split at hc
        · rename_i i hi
          split at hc
          · cases hc
          · rename_i hsz; cases hc; exact looks_fa ho hu hf hi hsz hx
        · cases hc
      · cases hc
    · cases hc
  · rename_i T x f ho
    split at hc
    · rename_i fs y hu hx
      split at hc
      · rename_i fl hf
        cases hn : shapeOf P fl.type with
        | none => simp [hn] at hc
        | some n => simp only [hn, Option.map_some, Option.some.injEq] at hc; subst hc; exact looks_fld ho hu hf hn hx
      · cases hc
    · cases hc
  · rename_i T x i ho
    split at hc
    · rename_i n e x' i' hu hx hi
      cases hk : P.info? e with
      | none => simp [hk] at hc
      | some k => simp only [hk, Option.map_some, Option.some.injEq] at hc; subst hc; exact looks_ia (arr := some n) ho hu hk hx hi
    · rename_i e x' i' hu hx hi
      cases hk : P.info? e with
      | none => simp [hk] at hc
      | some k => simp only [hk, Option.map_some, Option.some.injEq] at hc; subst hc; exact looks_ia (arr := none) ho hu hk hx hi
    · cases hc
  · rename_i T x i ho
    split at hc
    · rename_i n e x' i' hu hx hi
      split at hc
      · rename_i k m hk hm; cases hc; exact looks_ix ho hu hk hm hx hi
      · cases hc
    · cases hc
  · rename_i x j ho
    cases hx : compX x with
    | none => simp [hx] at hc
    | some y => simp only [hx, Option.map_some, Option.some.injEq] at hc; subst hc; exact looks_ext ho hx
  · rename_i c ho
    split at hc
    · split at hc
      · split at hc
        · cases hx : compXs c.args.toList with
          | none => simp [hx] at hc
          | some ys => simp only [hx, Option.map_some, Option.some.injEq] at hc; subst hc; cases hs
        · cases hc
      · cases hc
    · cases hx : compXs c.args.toList with
      | none => simp [hx] at hc
      | some ys => simp only [hx, Option.map_some, Option.some.injEq] at hc; subst hc; cases hs
    · rename_i hcal
      split at hc
      · rename_i x T ha hat
        split at hc
        · rename_i e hu
          cases hx : compX x with
          | none => simp [hx] at hc
          | some y => simp only [hx, Option.map_some, Option.some.injEq] at hc; subst hc; exact looks_len ho hcal ha hat hu hx
        · cases hc
      · cases hc
    · split at hc
      · split at hc
        · split at hc
          · split at hc
            · cases hc
            · cases hc; cases hs
          · cases hc
        · cases hc
      · cases hc
    · split at hc
      · split at hc
        · split at hc
          · cases hc; cases hs
          · cases hc
        · cases hc
      · cases hc
    · rename_i hcal
      split at hc
      · rename_i x y ha
        split at hc
        · rename_i x' y' hx hy; cases hc; exact looks_mx (q := false) ho hcal ha hx hy
        · cases hc
      · cases hc
    · rename_i hcal
      split at hc
      · rename_i x y ha
        split at hc
        · rename_i x' y' hx hy; cases hc; exact looks_mx (q := true) ho hcal ha hx hy
        · cases hc
      · cases hc
    · cases hc
  · cases hc

end
end Go.D

/- Instructions that make memory and write it. -/
namespace Go.D
set_option linter.all false
variable [Tabs]

theorem TRel.mono {σ σ' : Sg} {t : List V} {tmps : Array Value} {n m n' m' : Nat} (h : TRel σ t tmps n m) (hA : Agree n m σ σ') (hn : n ≤ n') (hm : m ≤ m') : TRel σ' t tmps n' m' := by
  refine ⟨h.size, fun i v hi => ?_⟩
  obtain ⟨h1, x, h2, h3⟩ := h.at_ i v hi
  refine ⟨V.val_mono hn hm h1, x, h2, ?_⟩
  rcases h3 with h3 | h3
  · exact .inl h3
  · exact .inr (by rw [h3, V.tr_congr hA v h1])

theorem TRel.put {σ : Sg} {t : List V} {a : Act} {n m : Nat} (h : TRel σ t a.tmps n m) (d : Option Nat) {v : V} {x : Value} (hv : v.val n m = true) (hx : Is σ v x) : TRel σ (putD t d v) (a.put d x).tmps n m := by
  cases d with
  | none => exact h
  | some d =>
    refine ⟨by simp [putD, Act.put, h.size], fun i u hi => ?_⟩
    simp only [putD, Act.put] at hi ⊢
    by_cases hid : d = i
    · subst hid
      rw [List.getElem?_set] at hi
      simp only [if_true] at hi
      split at hi
      · rename_i hlt
        cases hi
        exact ⟨hv, x, by rw [Array.getElem?_setIfInBounds_self, if_pos (by rw [← h.size]; exact hlt)], hx⟩
      · cases hi
    · rw [List.getElem?_set_ne hid] at hi
      obtain ⟨h1, y, h2, h3⟩ := h.at_ i u hi
      exact ⟨h1, y, by rw [Array.getElem?_setIfInBounds_ne hid]; exact h2, h3⟩

def Acts (P : Program) (Γ : FuncId → FSpec) (o : Oper) (op : I) : Prop :=
  ∀ (σ0 : Sg) (h0 : List Blk) (w0 : World) (σ : Sg) (t : List V) (a : Act) (ls h : List Blk) (w : World) (K : List V → V → List Blk → List Blk → Prop) (next : Act → World → Prop) (Q : Exit → Act → World → Prop),
    Inv σ0 h0 w0 σ h ls w → TRel σ t a.tmps h.length ls.length → iwp Γ op t ls h K →
    (∀ σ' t' v x ls' h' w', Inv σ0 h0 w0 σ' h' ls' w' → TRel σ' t' a.tmps h'.length ls'.length → v.val h'.length ls'.length = true → Is σ' v x → K t' v ls' h' → next (a.put o.dst x) w') →
    o.wp P a w next Q

section
variable {P : Program} {o : Oper} {Γ : FuncId → FSpec}

theorem acts_of_value {a : Act} {w w' : World} {x : Value} {next : Act → World → Prop} {Q : Exit → Act → World → Prop} (hr : (execOp a.eval o).run P w = .ok (.value x) w') (h : next (a.put o.dst x) w') : o.wp P a w next Q := by
  unfold Oper.wp; rw [hr]; exact h

theorem acts_of_looks {op : I} (h : Looks P o op) : Acts P Γ o op := by
  intro σ0 h0 w0 σ t a ls hh w K next Q H hT hK hn
  obtain ⟨v, x, h1, h2, h3, h4⟩ := h Γ σ t a ls hh K hT (fun r B hb => H.sim.bval hb) hK
  exact acts_of_value (h4 w H.sim) (hn σ t v x ls hh w H hT h2 h3 h1)

theorem new_own {σ0 : Sg} {h0 : List Blk} {w0 : World} {σ : Sg} {t : List V} {a : Act} {ls h : List Blk} {w : World} (H : Inv σ0 h0 w0 σ h ls w) (hT : TRel σ t a.tmps h.length ls.length)
    (cells : List S) (T : TypeId) (extra : Array Value) (hv : vals h.length ls.length cells = true) :
    ∃ σ', Inv σ0 h0 w0 σ' h (ls ++ [⟨.rw, cells, cells.length + extra.size⟩]) (w.alloc (.cells (trs σ cells ++ extra) T)) ∧
      TRel σ' t a.tmps h.length (ls ++ [(⟨.rw, cells, cells.length + extra.size⟩ : Blk)]).length ∧ ∀ o, adr σ' (.l ls.length) o = ⟨w.heap.size, o, none⟩ := by
  refine ⟨_, H.alloc cells T extra hv, hT.mono (agree_lay _ _ _ _ _ (Nat.le_refl _)) (Nat.le_refl _) (by simp), fun o => by simp [adr, lay]⟩

theorem acts_new {T : TypeId} {z : List S} (ho : o.op = .alloc T) (hz : zeroOf P T = some z) : Acts P Γ o (.new z) := by
  intro σ0 h0 w0 σ t a ls h w K next Q H hT hK hn
  obtain ⟨i, v, hi, hiz, hcells, hvz, _, _⟩ := zeroOf_run hz σ
  obtain ⟨σ', H', hT', hadr⟩ := new_own H hT z T #[] (vals_mono (Nat.zero_le _) (Nat.zero_le _) hvz)
  simp only [iwp] at hK
  simp only [Array.append_empty, Array.size_empty, Nat.add_zero] at H' hT'
  refine acts_of_value (w' := w.alloc (.cells (trs σ z) T)) (x := .pointer (some ⟨w.heap.size, 0, none⟩)) ?_ (hn σ' t _ _ _ h _ H' hT' ?_ (.inr ?_) hK)
  · simp [execOp, ho, Instr.alloc, zeroValue, typeInfo, hi, hiz, newVar, newRow, hcells]
  · simp [V.val, S.val, R.val]
  · simp [V.tr, S.tr, hadr]

theorem acts_box {T : TypeId} {x : Operand} {y : Opd} (ho : o.op = .box T x) (hx : compX x = some y) : Acts P Γ o (.box y) := by
  intro σ0 h0 w0 σ t a ls h w K next Q H hT hK hn
  simp only [iwp] at hK
  obtain ⟨hp, hK⟩ := hK
  obtain ⟨e1, e2⟩ := ev_is hT hx
  have hv := e2.eq (plain_known hp).2
  obtain ⟨σ', H', hT', hadr⟩ := new_own H hT (ev t y).cells T #[] (plain_val hp e1)
  simp only [Array.append_empty, Array.size_empty, Nat.add_zero] at H' hT'
  refine acts_of_value (w' := w.alloc (.cells (trs σ (ev t y).cells) T)) (x := .pointer (some ⟨w.heap.size, 0, none⟩)) ?_ (hn σ' t _ _ _ h _ H' hT' ?_ (.inr ?_) hK)
  · simp [execOp, ho, Instr.box, newVar, newRow, hv, plain_cells hp σ]
  · simp [V.val, S.val, R.val]
  · simp [V.tr, S.tr, hadr]

theorem zeros_length (z : List S) (n : Nat) : (zeros z n).length = n * z.length := by
  induction n with
  | zero => simp [zeros]
  | succ n ih => simp [zeros, ih, Nat.add_mul]; omega

theorem zeros_get (z : List S) (hz : z ≠ []) : ∀ (n j : Nat), j < n * z.length → (zeros z n)[j]? = z[j % z.length]?
  | 0, j, h => by simp at h
  | n + 1, j, h => by
    simp only [zeros]
    have hl : 0 < z.length := List.length_pos_iff.2 hz
    by_cases hj : j < z.length
    · rw [List.getElem?_append_left hj, Nat.mod_eq_of_lt hj]
    · rw [List.getElem?_append_right (by omega), zeros_get z hz n (j - z.length) (by rw [Nat.add_mul] at h; omega)]
      congr 1
      rw [Nat.mod_eq_sub_mod (by omega : j ≥ z.length)]

theorem zeros_trs (σ : Sg) (z : List S) (hz : z ≠ []) (n : Nat) : (Array.range (n * z.length)).map (fun j => (trs σ z)[j % (trs σ z).size]!) = trs σ (zeros z n) := by
  have hl : 0 < z.length := List.length_pos_iff.2 hz
  apply Array.ext
  · simp [trs, zeros_length]
  · intro j h1 h2
    simp only [Array.size_map, Array.size_range] at h1
    have hg := zeros_get z hz n j h1
    have hm : j % z.length < z.length := Nat.mod_lt _ hl
    have h3 : j < (zeros z n).length := by rw [zeros_length]; exact h1
    rw [List.getElem?_eq_getElem h3, List.getElem?_eq_getElem hm] at hg
    simp only [Option.some.injEq] at hg
    simp only [Array.getElem_map, Array.getElem_range, trs_size]
    rw [getElem!_pos _ _ (by rw [trs_size]; exact hm)]
    simp [trs, hg]

theorem zeros_vals {z : List S} (hz : vals 0 0 z = true) (n : Nat) : vals 0 0 (zeros z n) = true := by
  induction n with
  | zero => rfl
  | succ n ih => simp only [zeros, vals, List.all_append, Bool.and_eq_true]; exact ⟨hz, ih⟩

theorem acts_bsl {T e : TypeId} {n : Nat} {parts : Array (Nat × Operand)} {i : TypeInfo} {z : List S} {qs : List (Nat × Nat × Opd)} (ho : o.op = .buildSlice T n parts)
    (hu : P.underlying T = some (.slice e)) (hi : P.info? e = some i) (hz : zeroOf P e = some z) (hn24 : n * i.size ≤ 2 ^ 24) (hsz : i.size ≠ 0)
    (hq : partsOf P (fun j => some (j * i.size, i.size)) parts.toList = some qs) : Acts P Γ o (.bsl n (zeros z n) qs) := by
  intro σ0 h0 w0 σ t a ls h w K next Q H hT hK hn
  simp only [iwp] at hK
  split at hK
  · rename_i z' hz'
    obtain ⟨k, v, hk, hiz, hcells, hvz, _, hzl⟩ := zeroOf_run hz σ
    have hki : k = i := by rw [hk] at hi; cases hi; rfl
    rw [hki] at hk hiz hzl
    clear hki
    have hzne : z ≠ [] := by intro e; rw [e] at hzl; simp at hzl; omega
    obtain ⟨f1, f2⟩ := fill_run hT _ (fun j => some (j * i.size, i.size)) (fun _ _ h => h) parts.toList qs (zeros z n) z' hq hz' (vals_mono (Nat.zero_le _) (Nat.zero_le _) (zeros_vals hvz n))
    obtain ⟨σ', H', hT', hadr⟩ := new_own H hT z' e #[] f2
    simp only [Array.append_empty, Array.size_empty, Nat.add_zero] at H' hT'
    refine acts_of_value (w' := w.alloc (.cells (trs σ z') e)) (x := .slice (some ⟨w.heap.size, 0, none⟩) n n) ?_ (hn σ' t _ _ _ h _ H' hT' ?_ (.inr ?_) hK)
    · have h24 : ¬ (2 ^ 24 < n * i.size) := by omega
      by_cases h0 : n * i.size = 0
      · have hn0 : n = 0 := by rcases Nat.mul_eq_zero.1 h0 with h | h; exact h; exact absurd h hsz
        subst hn0
        have f1' : Instr.fill (fun j => some (j * i.size, i.size)) #[] (parts.toList.map fun x => (x.1, a.eval x.2)) = some (trs σ z') := f1
        simp [execOp, ho, Instr.buildSlice, run_underlying hu, sizeOf, typeInfo, hi, f1', newRow, Array.range_zero']
      · have f1' := f1
        rw [← zeros_trs σ z hzne n, hzl] at f1'
        simp [execOp, ho, Instr.buildSlice, run_underlying hu, sizeOf, typeInfo, hi, h24, h0, zeroValue, hiz, hcells, f1', newRow]
    · simp [V.val, S.val, R.val]
    · simp [V.tr, S.tr, hadr]
  · exact hK.elim

theorem acts_mks {T e : TypeId} {x y : Operand} {x' y' : Opd} {i : TypeInfo} {z : List S} (ho : o.op = .makeSlice T x y)
    (hu : P.underlying T = some (.slice e)) (hi : P.info? e = some i) (hz : zeroOf P e = some z) (hsz : i.size ≠ 0) (hx : compX x = some x') (hy : compX y = some y') : Acts P Γ o (.mks i.size i.bytes z x' y') := by
  intro σ0 h0 w0 σ t a ls h w K next Q H hT hK hn
  simp only [iwp] at hK
  split at hK
  · rename_i k1 n k2 c hq hq'
    obtain ⟨⟨g0, g1, g2, g3, _⟩, hK⟩ := hK
    obtain ⟨_, e1⟩ := ev_is hT hx
    obtain ⟨_, e2⟩ := ev_is hT hy
    rw [hq] at e1; rw [hq'] at e2
    have hn1 := e1.eq (by simp)
    have hc1 := e2.eq (by simp)
    simp only [V.tr, S.tr] at hn1 hc1
    obtain ⟨k, v, hk, hiz, hcells, hvz, _, hzl⟩ := zeroOf_run hz σ
    have hki : k = i := by rw [hk] at hi; cases hi; rfl
    rw [hki] at hk hiz hzl
    clear hki
    have hzne : z ≠ [] := by intro e; rw [e] at hzl; simp at hzl; omega
    obtain ⟨σ', H', hT', hadr⟩ := new_own H hT (zeros z c.toNat) e #[] (vals_mono (Nat.zero_le _) (Nat.zero_le _) (zeros_vals hvz _))
    simp only [Array.append_empty, Array.size_empty, Nat.add_zero] at H' hT'
    refine acts_of_value (w' := w.alloc (.cells (trs σ (zeros z c.toNat)) e)) (x := .slice (some ⟨w.heap.size, 0, none⟩) n.toNat c.toNat) ?_ (hn σ' t _ _ _ h _ H' hT' ?_ (.inr ?_) hK)
    · have w1 : IntKind.i64.wrap n = n := IntWalk.i64_in n (by omega)
      have w2 : IntKind.i64.wrap c = c := IntWalk.i64_in c (by omega)
      have hc0 : 0 ≤ c := by omega
      by_cases h0 : c.toNat * i.size = 0
      · have hn0 : c.toNat = 0 := by rcases Nat.mul_eq_zero.1 h0 with h | h; exact h; exact absurd h hsz
        have hcz : c = 0 := by omega
        have hnz : n = 0 := by omega
        subst hcz; subst hnz
        have w0 : IntKind.i64.wrap 0 = 0 := by decide
        simp [execOp, ho, Instr.makeSlice, run_underlying hu, hn1, hc1, asInt, asIntOf, sizeOf, typeInfo, hi, w0, newRow, zeros, trs, Array.range_zero']
      · have f1 := zeros_trs σ z hzne c.toNat
        rw [hzl] at f1
        have q1 : ¬ (c < 0) := by omega
        have q2 : ¬ (2 ^ 48 < ↑i.bytes * c) := by omega
        have q3 : ¬ (n < 0) := by omega
        have q4 : ¬ (c < n) := by omega
        simp [execOp, ho, Instr.makeSlice, run_underlying hu, hn1, hc1, asInt, asIntOf, sizeOf, typeInfo, hi, w1, w2, q1, q2, q3, q4, zeroValue, hiz, hcells, h0, f1, newRow]
        exact fun hq => absurd hq (by omega)
    · simp [V.val, S.val, R.val]
    · simp [V.tr, S.tr, hadr]
  · exact hK.elim

theorem acts_st {T : TypeId} {x y : Operand} {x' y' : Opd} {i : TypeInfo} (ho : o.op = .store T x y) (hi : P.info? T = some i) (hx : compX x = some x') (hy : compX y = some y') : Acts P Γ o (.st x' y' i.size) := by
  intro σ0 h0 w0 σ t a ls h w K next Q H hT hK hn
  simp only [iwp] at hK
  split at hK
  · rename_i r off hq
    split at hK
    · rename_i B hB
      obtain ⟨⟨hrw, hp, hlen, hfit, htk⟩, hK⟩ := hK
      obtain ⟨_, e1⟩ := ev_is hT hx
      obtain ⟨_, e2⟩ := ev_is hT hy
      rw [hq] at e1
      have hxv := e1.eq (by simp)
      simp only [V.tr, S.tr] at hxv
      have hyv := e2.eq (plain_known hp).2
      obtain ⟨w', hr, H'⟩ := storeCells_run (P := P) r off (ev t y').cells 0 h ls w B H hB hrw (by omega) (plain_known hp).1 htk
      simp only [Nat.add_zero] at H'
      have hT' : TRel σ t a.tmps (setH h r { B with cells := put B.cells off (ev t y').cells }).length (setL ls r { B with cells := put B.cells off (ev t y').cells }).length := by
        rw [setH_length, setL_length]; exact hT
      unfold Oper.wp
      have hrun : (execOp a.eval o).run P w = .ok .skip w' := by
        have hsz : ((ev t y').tr σ).cells.size = i.size := by rw [plain_cells hp σ, trs_size, hlen]
        have hr' : (storeCells (adr σ r off) ((ev t y').tr σ).cells.toList 0).run P w = .ok () w' := by
          rw [plain_cells hp σ]; exact hr
        simp [execOp, ho, hxv, hyv, Instr.storeAt, Instr.sureAddr, storeVar, sizeOf, typeInfo, hi, hsz, hr']
      rw [hrun]
      exact hn σ t _ undef _ _ w' H' hT' rfl (.inr rfl) hK
    · exact hK.elim
  · exact hK.elim

theorem shows_run {σ : Sg} {h ls : List Blk} {w : World} (hS : Sim σ h ls w) {esize : Nat} {s : S} {n : Nat} {xs : List S} (hsh : shows ls h esize s = some (n, xs)) (hk : known xs = true) (hu : s ≠ .u) (m : Nat) (hm : m ≤ n) :
    (Builtin.lenOf (s.tr σ)).run P w = .ok n w ∧ (Builtin.firstCells esize m (s.tr σ)).run P w = .ok (trs σ (sub xs 0 (m * esize))) w ∧ xs.length = n * esize := by
  unfold shows at hsh
  split at hsh
  · rename_i r off n' c
    split at hsh
    · rename_i B hB
      split at hsh
      · split at hsh
        · rename_i h0
          simp only [Option.some.injEq, Prod.mk.injEq] at hsh
          obtain ⟨rfl, rfl⟩ := hsh
          subst h0
          have : m = 0 := by omega
          subst this
          exact ⟨by simp [Builtin.lenOf, S.tr], by simp [Builtin.firstCells, S.tr, sub, trs, loadCells, loadCellsFrom], by simp⟩
        · cases hsh
      · rename_i hno
        rw [not_or] at hno
        obtain ⟨hd, hlen⟩ := hno
        simp only [Option.some.injEq, Prod.mk.injEq] at hsh
        obtain ⟨rfl, rfl⟩ := hsh
        have hle : m * esize ≤ n' * esize := Nat.mul_le_mul_right _ hm
        have e1 : sub (sub B.cells off (n' * esize)) 0 (m * esize) = sub B.cells off (m * esize) := by
          simp only [sub, List.drop_zero, List.take_take]
          rw [Nat.min_eq_left hle]
        have hk' : known (sub B.cells off (m * esize)) = true := by
          rw [← e1]
          simp only [known, List.all_eq_true] at hk ⊢
          exact fun x hx => hk x (by simp only [sub, List.drop_zero] at hx ⊢; exact List.mem_of_mem_take hx)
        have := run_loadCells_sub (P := P) hS hB hd (by omega) hk'
        refine ⟨by simp [Builtin.lenOf, S.tr], ?_, sub_length (by omega)⟩
        rw [e1]
        simpa [Builtin.firstCells, S.tr] using this
    · cases hsh
  · simp only [Option.some.injEq, Prod.mk.injEq] at hsh
    obtain ⟨rfl, rfl⟩ := hsh
    exact ⟨by simp [Builtin.lenOf, S.tr], by simp [Builtin.firstCells, S.tr, sub, trs], by simp⟩
  · simp only [Option.some.injEq, Prod.mk.injEq] at hsh
    obtain ⟨rfl, rfl⟩ := hsh
    have : m = 0 := by omega
    subst this
    exact ⟨by simp [Builtin.lenOf, S.tr], by simp [Builtin.firstCells, S.tr, sub, trs, loadCells, loadCellsFrom], by simp⟩
  · cases hsh

theorem known_sub {xs : List S} {o n : Nat} (h : known xs = true) : known (sub xs o n) = true := by
  simp only [known, List.all_eq_true] at h ⊢
  exact fun x hx => h x (List.mem_of_mem_drop (List.mem_of_mem_take hx))

theorem shows_known {ls h : List Blk} {esize : Nat} {s : S} {r : Nat × List S} (hs : shows ls h esize s = some r) : s ≠ .u := by
  rintro rfl; simp [shows] at hs

theorem acts_cpy {T e U : TypeId} {x y : Operand} {x' y' : Opd} {i : TypeInfo} {c : Call} (ho : o.op = .call c) (hc : c.callee = .builtin .copy) (ha : c.args.toList = [x, y]) (hat : c.argTypes.toList = [T, U])
    (hu : P.underlying T = some (.slice e)) (hi : P.info? e = some i) (hx : compX x = some x') (hy : compX y = some y') : Acts P Γ o (.cpy i.size x' y') := by
  have ha' : c.args = #[x, y] := by rw [← ha]
  have hat' : c.argTypes = #[T, U] := by rw [← hat]
  intro σ0 h0 w0 σ t a ls h w K next Q H hT hK hn
  simp only [iwp] at hK
  split at hK
  · rename_i dx sy hqx hqy
    obtain ⟨_, e1⟩ := ev_is hT hx
    obtain ⟨_, e2⟩ := ev_is hT hy
    rw [hqx] at e1; rw [hqy] at e2
    split at hK
    · rename_i n src hsh
      have hyv := e2.eq (by simpa using shows_known hsh)
      simp only [V.tr] at hyv
      split at hK
      · rename_i r off len cap
        have hxv := e1.eq (by simp)
        simp only [V.tr, S.tr] at hxv
        split at hK
        · rename_i B hB
          obtain ⟨⟨hrw, hfit, hkn, htk⟩, hK⟩ := hK
          obtain ⟨l1, _, l3⟩ := shows_run (P := P) H.sim hsh hkn (shows_known hsh) 0 (Nat.zero_le _)
          obtain ⟨_, l2, _⟩ := shows_run (P := P) H.sim hsh hkn (shows_known hsh) (min n len) (Nat.min_le_left _ _)
          have hmle : min n len * i.size ≤ n * i.size := Nat.mul_le_mul_right _ (Nat.min_le_left _ _)
          have hmle' : min n len * i.size ≤ len * i.size := Nat.mul_le_mul_right _ (Nat.min_le_right _ _)
          have hsl : (sub src 0 (min n len * i.size)).length = min n len * i.size := sub_length (by omega)
          obtain ⟨w', hr, H'⟩ := storeCells_run (P := P) r off (sub src 0 (min n len * i.size)) 0 h ls w B H hB hrw (by omega) (known_sub hkn) htk
          simp only [Nat.add_zero] at H'
          have hT' : TRel σ t a.tmps (setH h r { B with cells := put B.cells off (sub src 0 (min n len * i.size)) }).length (setL ls r { B with cells := put B.cells off (sub src 0 (min n len * i.size)) }).length := by
            rw [setH_length, setL_length]; exact hT
          refine acts_of_value (w' := w') (x := .int .i64 (min n len : Nat)) ?_ (hn σ t _ _ _ _ w' H' hT' rfl (.inr rfl) hK)
          have hr' : (storeCells (adr σ r off) (trs σ (sub src 0 (min n len * i.size))).toList 0).run P w = .ok () w' := by
            simpa [trs] using hr
          have e3 : Nat.min n len = min n len := rfl
          simp [execOp, ho, resolve, hc, ha', hat', invoke, builtin, Builtin.copy_, hxv, hyv, run_underlying hu, l1, e3, sizeOf, typeInfo, hi, l2, hr', goInt]
        · exact hK.elim
      · have hxv := e1.eq (by simp)
        simp only [V.tr, S.tr] at hxv
        obtain ⟨hkn, hK⟩ := hK
        obtain ⟨l1, l2, _⟩ := shows_run (P := P) H.sim hsh hkn (shows_known hsh) 0 (Nat.zero_le _)
        refine acts_of_value (w' := w) (x := .int .i64 0) ?_ (hn σ t _ _ _ _ w H hT rfl (.inr rfl) hK)
        have e3 : Nat.min n 0 = 0 := Nat.min_zero n
        simp [execOp, ho, resolve, hc, ha', hat', invoke, builtin, Builtin.copy_, hxv, hyv, run_underlying hu, l1, e3, sizeOf, typeInfo, hi, l2, goInt]
      · exact hK.elim
    · exact hK.elim
  · exact hK.elim

end
end Go.D

