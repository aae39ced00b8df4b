/- Soundness of the instructions that only look: loads, parts, tests of equality, slices. -/
import Derived.Test.YthegocjfnjfkdaaDE
import Derived.ChangeKeysEq
import Derived.Laws.StructEq
namespace Go.D
set_option linter.all false
open Go.D

theorem trs_sub (σ : Sg) (xs : List S) (o n : Nat) : (trs σ xs).extract o (o + n) = trs σ (sub xs o n) := by
  simp [trs, sub, List.map_take, List.map_drop]
theorem trs_size (σ : Sg) (xs : List S) : (trs σ xs).size = xs.length := by simp [trs]
theorem trs_get (σ : Sg) (xs : List S) (o : Nat) : (trs σ xs)[o]? = (xs[o]?).map (S.tr σ) := by simp [trs]

theorem vals_sub {n m o k : Nat} {xs : List S} (h : vals n m xs = true) : vals n m (sub xs o k) = true := by
  simp only [vals, List.all_eq_true] at *
  exact fun x hx => h x (List.mem_of_mem_drop (List.mem_of_mem_take hx))
theorem vals_get {n m o : Nat} {xs : List S} {s : S} (h : vals n m xs = true) (hs : xs[o]? = some s) : s.val n m = true := by
  simp only [vals, List.all_eq_true] at h; exact h s (List.mem_of_getElem? hs)

section
variable {P : Program} {o : Oper} (w : World)

theorem run_isAgg_some {T : TypeId} {n : Nat} (h : shapeOf P T = some (some n)) : (isAgg T).run P w = .ok true w ∧ (sizeOf T).run P w = .ok n w := by
  unfold shapeOf at h
  split at h
  · rename_i i fs hi hu; cases h; exact ⟨by simp [isAgg, run_underlying hu], by simp [sizeOf, typeInfo, hi]⟩
  · rename_i i n e hi hu; cases h; exact ⟨by simp [isAgg, run_underlying hu], by simp [sizeOf, typeInfo, hi]⟩
  · cases h
  · cases h
theorem run_isAgg_none {T : TypeId} (h : shapeOf P T = some none) : (isAgg T).run P w = .ok false w := by
  unfold shapeOf at h
  split at h
  · cases h
  · cases h
  · rename_i i d h1 h2 hi hu
    simp only [isAgg, Sem.run_bind, run_underlying hu, Result.andThen_ok]
    rfl
  · cases h

theorem run_part_some {T : TypeId} {n : Nat} (h : shapeOf P T = some (some n)) (σ : Sg) (xs : List S) (off : Nat) :
    (part T (trs σ xs) off).run P w = .ok (.agg (trs σ (sub xs off n))) w := by
  have := run_isAgg_some w h
  simp [part, this.1, this.2, trs_sub]
theorem run_part_none {T : TypeId} (h : shapeOf P T = some none) (σ : Sg) (xs : List S) (off : Nat) {s : S} (hs : xs[off]? = some s) :
    (part T (trs σ xs) off).run P w = .ok (s.tr σ) w := by
  have := run_isAgg_none w h
  simp [part, this, trs_get, hs]
end

section
variable {P : Program} {o : Oper}

theorem looks_fld {T : TypeId} {x : Operand} {y : Opd} {j : Nat} {fs : Array Field} {f : Field} {n : Option Nat} (ho : o.op = .field T x j) (hu : P.underlying T = some (.struct fs)) (hf : fs[j]? = some f)
    (hn : shapeOf P f.type = some n) (hx : compX x = some y) : Looks P o (.fld y f.offset n) := by
  intro Γ σ t a ls h K hT hV hK
  obtain ⟨h1, h2⟩ := ev_is hT hx
  simp only [iwp] at hK
  split at hK
  · rename_i xs hq
    rw [hq] at h1 h2
    have hv := h2.eq (by simp)
    split at hK
    · split at hK
      · rename_i s hs
        refine ⟨_, _, hK, vals_get h1 hs, Is.mk _, fun w _ => ?_⟩
        simp [execOp, ho, hv, V.tr, Instr.field, run_underlying hu, hf, asAgg, run_part_none w hn σ xs _ hs]
      · exact hK.elim
    · rename_i n
      refine ⟨_, _, hK.2, vals_sub h1, Is.mk _, fun w _ => ?_⟩
      simp [execOp, ho, hv, V.tr, Instr.field, run_underlying hu, hf, asAgg, run_part_some w hn σ xs]
  · exact hK.elim

theorem adr_add (σ : Sg) (r : R) (o n : Nat) : (adr σ r o).add n = adr σ r (o + n) := by
  unfold Addr.add adr; split
  · rename_i e; simp [e]
  · simp [Nat.add_assoc]

theorem looks_ia {T e : TypeId} {x i : Operand} {y i' : Opd} {arr : Option Nat} {k : TypeInfo} (ho : o.op = .indexAddr T x i)
    (hu : match arr with | some n => P.underlying T = some (.array n e) | none => P.underlying T = some (.slice e)) (hk : P.info? e = some k)
    (hx : compX x = some y) (hi : compX i = some i') : Looks P o (.ia arr k.size y i') := by
  intro Γ σ t a ls h K hT hV hK
  obtain ⟨h1, h2⟩ := ev_is hT hx
  obtain ⟨_, i2⟩ := ev_is hT hi
  simp only [iwp] at hK
  split at hK
  · rename_i kk iv hqi
    rw [hqi] at i2
    have hiv := i2.eq (by simp)
    split at hK
    · rename_i n r off hq
      obtain ⟨hb, hK⟩ := hK
      rw [hq] at h1 h2
      have hv := h2.eq (by simp)
      refine ⟨_, _, hK, h1, Is.mk _, fun w _ => ?_⟩
      simp only at hu
      simp [execOp, ho, hv, hiv, V.tr, S.tr, Instr.indexAt, asIntOf, run_underlying hu, Instr.sureAddr, hb, sizeOf, typeInfo, hk, adr_add]
    · rename_i r off n c hq
      obtain ⟨hb, hK⟩ := hK
      rw [hq] at h1 h2
      have hv := h2.eq (by simp)
      refine ⟨_, _, hK, h1, Is.mk _, fun w _ => ?_⟩
      simp only at hu
      simp [execOp, ho, hv, hiv, V.tr, S.tr, Instr.indexAt, asIntOf, run_underlying hu, hb, sizeOf, typeInfo, hk, adr_add]
    · exact hK.elim
  · exact hK.elim

theorem looks_ix {T e : TypeId} {x i : Operand} {y i' : Opd} {len : Nat} {n : Option Nat} {k : TypeInfo} (ho : o.op = .index T x i)
    (hu : P.underlying T = some (.array len e)) (hk : P.info? e = some k) (hn : shapeOf P e = some n)
    (hx : compX x = some y) (hi : compX i = some i') : Looks P o (.ix len k.size n y i') := by
  intro Γ σ t a ls h K hT hV hK
  obtain ⟨h1, h2⟩ := ev_is hT hx
  obtain ⟨_, i2⟩ := ev_is hT hi
  simp only [iwp] at hK
  split at hK
  · rename_i xs kk iv hq hqi
    rw [hqi] at i2
    rw [hq] at h1 h2
    have hiv := i2.eq (by simp)
    have hv := h2.eq (by simp)
    obtain ⟨hb, hK⟩ := hK
    split at hK
    · split at hK
      · rename_i s hs
        refine ⟨_, _, hK, vals_get h1 hs, Is.mk _, fun w _ => ?_⟩
        simp [execOp, ho, hv, hiv, V.tr, S.tr, Instr.index, asIntOf, run_underlying hu, hb, sizeOf, typeInfo, hk, run_part_none w hn σ xs _ hs]
      · exact hK.elim
    · rename_i n
      refine ⟨_, _, hK.2, vals_sub h1, Is.mk _, fun w _ => ?_⟩
      simp [execOp, ho, hv, hiv, V.tr, S.tr, Instr.index, asIntOf, run_underlying hu, hb, sizeOf, typeInfo, hk, run_part_some w hn σ xs]
  · exact hK.elim

theorem looks_len {T e : TypeId} {x : Operand} {y : Opd} {c : Call} (ho : o.op = .call c) (hc : c.callee = .builtin .len) (ha : c.args.toList = [x]) (hat : c.argTypes.toList = [T])
    (hu : P.underlying T = some (.slice e)) (hx : compX x = some y) : Looks P o (.len y) := by
  have ha' : c.args = #[x] := by rw [← ha]
  have hat' : c.argTypes = #[T] := by rw [← hat]
  intro Γ σ t a ls h K hT hV hK
  obtain ⟨h1, h2⟩ := ev_is hT hx
  simp only [iwp] at hK
  split at hK
  · rename_i r off n c hq
    rw [hq] at h1 h2
    have hv := h2.eq (by simp)
    refine ⟨_, _, hK, rfl, Is.mk _, fun w _ => ?_⟩
    simp [execOp, ho, hv, V.tr, S.tr, resolve, hc, ha', hat', invoke, builtin, Builtin.len_, run_underlying hu, goInt]
  · rename_i hq
    rw [hq] at h1 h2
    have hv := h2.eq (by simp)
    refine ⟨_, _, hK, rfl, Is.mk _, fun w _ => ?_⟩
    simp [execOp, ho, hv, V.tr, S.tr, resolve, hc, ha', hat', invoke, builtin, Builtin.len_, run_underlying hu, goInt]
  · exact hK.elim

theorem looks_mx {q : Bool} {x y : Operand} {x' y' : Opd} {c : Call} (ho : o.op = .call c) (hc : c.callee = .builtin (if q then .max else .min)) (ha : c.args.toList = [x, y])
    (hx : compX x = some x') (hy : compX y = some y') : Looks P o (.mx q x' y') := by
  have ha' : c.args = #[x, y] := by rw [← ha]
  intro Γ σ t a ls h K hT hV hK
  obtain ⟨h1, h2⟩ := ev_is hT hx
  obtain ⟨_, y2⟩ := ev_is hT hy
  simp only [iwp] at hK
  split at hK
  · rename_i k n k' m hq hq'
    rw [hq] at h2
    rw [hq'] at y2
    have hv := h2.eq (by simp)
    have hw := y2.eq (by simp)
    refine ⟨_, _, hK, rfl, Is.mk _, fun w _ => ?_⟩
    cases q
    · simp [execOp, ho, hv, hw, V.tr, S.tr, resolve, hc, ha', invoke, builtin, run_min_int2]
    · simp [execOp, ho, hv, hw, V.tr, S.tr, resolve, hc, ha', invoke, builtin, run_max_int2]
  · exact hK.elim

theorem capsOf_tr {σ : Sg} {t : List V} {a : Act} {n m : Nat} (hT : TRel σ t a.tmps n m) : ∀ {xs : List Operand} {ys : List Opd} {cs : List (R × Nat)}, compXs xs = some ys → capsOf t ys = some cs →
    xs.map a.eval = cs.map (fun x => Value.pointer (some (adr σ x.1 x.2))) ∧ cs.all (fun x => x.1.val n m) = true
  | [], ys, cs, hx, hc => by
    simp only [compXs, Option.some.injEq] at hx; subst hx
    simp only [capsOf, Option.some.injEq] at hc; subst hc
    exact ⟨rfl, rfl⟩
  | x :: xs, ys, cs, hx, hc => by
    simp only [compXs] at hx
    cases h1 : compX x with
    | none => simp [h1] at hx
    | some y =>
      cases h2 : compXs xs with
      | none => simp [h1, h2] at hx
      | some l =>
        simp only [h1, h2, Option.some.injEq] at hx
        subst hx
        simp only [capsOf] at hc
        obtain ⟨v1, v2⟩ := ev_is hT h1
        split at hc
        · rename_i r off l' hq hl
          simp only [Option.some.injEq] at hc
          subst hc
          obtain ⟨i1, i2⟩ := capsOf_tr hT h2 hl
          rw [hq] at v1 v2
          have hv := v2.eq (by simp)
          refine ⟨by simp [hv, i1, V.tr, S.tr], ?_⟩
          simp only [List.all_cons, Bool.and_eq_true]
          exact ⟨v1, i2⟩
        · cases hc

theorem looks_mkf {f : FuncId} {first caps : Array Operand} {ys : List Opd} (ho : o.op = .makeFunc (.func f) first caps) (hfirst : first.isEmpty = true) (hx : compXs caps.toList = some ys) : Looks P o (.mkf f ys) := by
  intro Γ σ t a ls h K hT hV hK
  simp only [iwp] at hK
  split at hK
  · rename_i cs hcs
    obtain ⟨h1, h2⟩ := capsOf_tr hT hx hcs
    refine ⟨_, _, hK, h2, Is.mk _, fun w _ => ?_⟩
    have hf : first = #[] := by simpa using hfirst
    have hcaps : caps.map a.eval = (cs.map fun x => Value.pointer (some (adr σ x.1 x.2))).toArray := by
      rw [← h1, ← Array.toList_map, Array.toArray_toList]
    simp [execOp, ho, V.tr, S.tr, Instr.makeFunc, hf, hcaps]
  · exact hK.elim

theorem known_of {s : S} (h : (V.s s).known = true) : s ≠ .u := by rintro rfl; simp [V.known] at h

theorem known_get {xs : List S} (h : known xs = true) {i : Nat} {s : S} (hs : xs[i]? = some s) : s ≠ .u := by
  rintro rfl
  simp only [known, List.all_eq_true] at h
  have := h _ (List.mem_of_getElem? hs)
  simp at this

theorem sub_get {xs : List S} {o n i : Nat} (hi : i < n) : (sub xs o n)[i]? = xs[o + i]? := by
  simp [sub, List.getElem?_take, List.getElem?_drop, hi]
theorem sub_length {xs : List S} {o n : Nat} (h : o + n ≤ xs.length) : (sub xs o n).length = n := by
  simp [sub]; omega

theorem run_loadCells_sub {σ : Sg} {h ls : List Blk} {w : World} (hS : Sim σ h ls w) {r : R} {B : Blk} (hB : blk h ls r = some B) (hd : B.st ≠ .dead) {o n : Nat} (hn : o + n ≤ B.cells.length)
    (hk : known (sub B.cells o n) = true) : (loadCells (adr σ r o) n).run P w = .ok (trs σ (sub B.cells o n)) w := by
  have hlen : ((sub B.cells o n).map (S.tr σ)).length = n := by simp [sub_length hn]
  have := run_loadCells_list (P := P) w (adr σ r o) ((sub B.cells o n).map (S.tr σ)) (fun j v hj => by
    rw [List.getElem?_map] at hj
    cases hs : (sub B.cells o n)[j]? with
    | none => simp [hs] at hj
    | some s =>
      simp only [hs, Option.map_some, Option.some.injEq] at hj
      subst hj
      have hjn : j < n := by have := (List.getElem?_eq_some_iff.1 hs).1; rw [sub_length hn] at this; exact this
      rw [adr_add]
      exact hS.cell hB hd (by rw [← sub_get hjn]; exact hs) (known_get hk hs))
  rw [hlen] at this
  exact this

theorem looks_ld {T : TypeId} {x : Operand} {y : Opd} {n : Option Nat} (ho : o.op = .load T x) (hn : shapeOf P T = some n) (hx : compX x = some y) : Looks P o (.ld y n) := by
  intro Γ σ t a ls h K hT hV hK
  obtain ⟨h1, h2⟩ := ev_is hT hx
  simp only [iwp] at hK
  split at hK
  · rename_i r off hq
    rw [hq] at h1 h2
    have hv := h2.eq (by simp)
    split at hK
    · rename_i B hB
      split at hK
      · split at hK
        · rename_i s hs
          obtain ⟨⟨hd, hkn⟩, hK⟩ := hK
          refine ⟨_, s.tr σ, hK, vals_get (hV r B hB) hs, Is.mk _, fun w hS => ?_⟩
          have hc := hS.cell hB hd hs (known_of hkn)
          simp [execOp, ho, hv, V.tr, S.tr, Instr.loadAt, Instr.sureAddr, loadVar, run_isAgg_none w hn, hc]
        · exact hK.elim
      · obtain ⟨⟨hd, hlen, hkn⟩, hK⟩ := hK
        refine ⟨_, _, hK, vals_sub (hV r B hB), Is.mk _, fun w hS => ?_⟩
        have hc := run_loadCells_sub (P := P) hS hB hd hlen hkn
        simp [execOp, ho, hv, V.tr, S.tr, Instr.loadAt, Instr.sureAddr, loadVar, run_isAgg_some w hn, hc]
    · exact hK.elim
  · exact hK.elim

/-! ### numbers and bools -/
theorem looks_bin {op : BinOp} {T U : TypeId} {x y : Operand} {x' y' : Opd} (ho : o.op = .binOp op T x y U) (hx : compX x = some x') (hy : compX y = some y') : Looks P o (.bin op x' y') := by
  intro Γ σ t a ls h K hT hV hK
  obtain ⟨_, h2⟩ := ev_is hT hx
  obtain ⟨_, y2⟩ := ev_is hT hy
  simp only [iwp] at hK
  split at hK
  · rename_i s s' hq hq'
    rw [hq] at h2; rw [hq'] at y2
    unfold bin1 at hK
    split at hK
    · rename_i k n k' m
      have hv := h2.eq (by simp)
      have hw := y2.eq (by simp)
      cases op <;> simp only at hK <;> obtain ⟨hp, hK⟩ := hK <;> (try subst hp)
      case quo =>
        obtain ⟨rfl, hp⟩ := hp
        exact ⟨_, _, hK, rfl, Is.mk _, fun w _ => by simp [execOp, ho, hv, hw, V.tr, S.tr, eqGuard, binOp, Op.intDiv, hp]⟩
      case rem =>
        obtain ⟨rfl, hp⟩ := hp
        exact ⟨_, _, hK, rfl, Is.mk _, fun w _ => by simp [execOp, ho, hv, hw, V.tr, S.tr, eqGuard, binOp, Op.intDiv, hp]⟩
      case shl => exact ⟨_, _, hK, rfl, Is.mk _, fun w _ => by simp [execOp, ho, hv, hw, V.tr, S.tr, eqGuard, binOp, shift_shl_any _ _ _ _ hp]⟩
      case shr => exact ⟨_, _, hK, rfl, Is.mk _, fun w _ => by simp [execOp, ho, hv, hw, V.tr, S.tr, eqGuard, binOp, shift_shr_any _ _ _ _ hp]⟩
      all_goals exact ⟨_, _, hK, rfl, Is.mk _, fun w _ => by simp [execOp, ho, hv, hw, V.tr, S.tr, eqGuard, binOp, Op.intArith, Op.intCmp, intBits_and, intBits_or, intBits_xor, intBits_andNot]⟩
    · exact hK.elim
  · exact hK.elim

theorem looks_eqb {q : Bool} {T U : TypeId} {x y : Operand} {x' y' : Opd} (ho : o.op = .binOp (if q then .neq else .eql) T x y U) (hu : P.underlying T = some .bool) (hx : compX x = some x') (hy : compX y = some y') : Looks P o (.eqb q x' y') := by
  intro Γ σ t a ls h K hT hV hK
  obtain ⟨_, h2⟩ := ev_is hT hx
  obtain ⟨_, y2⟩ := ev_is hT hy
  simp only [iwp] at hK
  split at hK
  · rename_i b c hq hq'
    rw [hq] at h2; rw [hq'] at y2
    have hv := h2.eq (by simp)
    have hw := y2.eq (by simp)
    refine ⟨_, _, hK, rfl, Is.mk _, fun w _ => ?_⟩
    cases q
    · simp [execOp, ho, hv, hw, V.tr, S.tr, eqGuard_at_bool, run_eql_bool, hu]
    · simp [execOp, ho, hv, hw, V.tr, S.tr, eqGuard_at_bool, run_neq_bool, hu]
  · exact hK.elim

end
end Go.D
