/- Soundness of the instructions that only look: nil tests, equality of aggregates. -/
import Derived.Test.YthegocjfnjfkdaaDF
namespace Go.D
set_option linter.all false
section
variable {P : Program} {o : Oper}

theorem looks_eqn_ptr {q : Bool} {T U e : TypeId} {x y : Operand} {x' : Opd} (ho : o.op = .binOp (if q then .neq else .eql) T x y U)
    (hu : P.underlying T = some (.pointer e)) (hn : nilPtr y = true) (hx : compX x = some x') : Looks P o (.eqn false q x') := by
  intro Γ σ t a ls h K hT hV hK
  obtain ⟨_, h2⟩ := ev_is hT hx
  have hy : y = .const (.pointer none) := by
    unfold nilPtr at hn
    split at hn
    · rfl
    · cases hn
  have hp : P.underlying T = some (.pointer (P.pointee T)) := by simp [Program.pointee, hu]
  have hyv : a.eval (.const (.pointer none)) = .pointer none := rfl
  simp only [iwp] at hK
  split at hK
  · rename_i s hq
    split at hK
    · rename_i b hb
      rw [hq] at h2
      refine ⟨_, _, hK, rfl, Is.mk _, fun w _ => ?_⟩
      cases s <;> simp [isNil] at hb <;> subst hb
      all_goals
        have hv := h2.eq (by simp)
        simp only [V.tr, S.tr] at hv
        cases q <;> simp [execOp, ho, hv, hy, hyv, V.tr, S.tr, eqGuard_at_pointer, run_eql_pointer_nil _ _ _ hp, run_neq_pointer_nil _ _ _ hp]
    · exact hK.elim
  · exact hK.elim

theorem equalIn_sl {T e : TypeId} (hu : P.underlying T = some (.slice e)) (w : World) (d : Nat) (b : Option Addr) (n c : Nat) :
    (Op.equalIn (d + 1) T (.slice b n c) (.slice none 0 0)).run P w = .ok b.isNone w := by
  cases b <;> simp [Op.equalIn, run_underlying hu]
theorem run_eql_sl {T e : TypeId} (hu : P.underlying T = some (.slice e)) (w : World) (b : Option Addr) (n c : Nat) :
    (binOp .eql T (.slice b n c) (.slice none 0 0)).run P w = .ok (.bool b.isNone) w := by
  have h := equalIn_sl hu w 9999 b n c
  show ((Op.equalIn 10000 T (.slice b n c) (.slice none 0 0)) >>= fun r => Pure.pure (Value.bool r)).run P w = _
  rw [Sem.run_bind, h]; rfl
theorem run_neq_sl {T e : TypeId} (hu : P.underlying T = some (.slice e)) (w : World) (b : Option Addr) (n c : Nat) :
    (binOp .neq T (.slice b n c) (.slice none 0 0)).run P w = .ok (.bool (!b.isNone)) w := by
  have h := equalIn_sl hu w 9999 b n c
  show ((Op.equalIn 10000 T (.slice b n c) (.slice none 0 0)) >>= fun r => Pure.pure (Value.bool (!r))).run P w = _
  rw [Sem.run_bind, h]; rfl

theorem looks_eqn_sl {q : Bool} {T U e : TypeId} {x y : Operand} {x' : Opd} (ho : o.op = .binOp (if q then .neq else .eql) T x y U)
    (hu : P.underlying T = some (.slice e)) (hn : nilSl y = true) (hx : compX x = some x') : Looks P o (.eqn true q x') := by
  intro Γ σ t a ls h K hT hV hK
  obtain ⟨_, h2⟩ := ev_is hT hx
  have hy : y = .const (.slice none 0 0) := by
    unfold nilSl at hn
    split at hn
    · rfl
    · cases hn
  have hyv : a.eval (.const (.slice none 0 0)) = .slice none 0 0 := rfl
  simp only [iwp] at hK
  split at hK
  · rename_i s hq
    split at hK
    · rename_i b hb
      rw [hq] at h2
      refine ⟨_, _, hK, rfl, Is.mk _, fun w _ => ?_⟩
      cases s <;> simp [isNil] at hb <;> subst hb
      all_goals
        have hv := h2.eq (by simp)
        simp only [V.tr, S.tr] at hv
        cases q <;> simp [execOp, ho, hv, hy, hyv, V.tr, S.tr, eqGuard_at_slice, run_eql_sl hu, run_neq_sl hu]
    · exact hK.elim
  · exact hK.elim

/-! ### aggregates that are compared -/
theorem cmpS_length : ∀ {ks : List Bool} {a b : List S}, cmpS ks a b = true → a.length = ks.length ∧ b.length = ks.length
  | [], [], [], _ => ⟨rfl, rfl⟩
  | k :: ks, x :: a, y :: b, h => by
    simp only [cmpS, Bool.and_eq_true] at h
    have := cmpS_length h.2
    simp [this.1, this.2]
  | [], [], _ :: _, h => by simp [cmpS] at h
  | [], _ :: _, _, h => by simp [cmpS] at h
  | _ :: _, [], _, h => by simp [cmpS] at h
  | _ :: _, _ :: _, [], h => by simp [cmpS] at h
theorem eqS_append : ∀ (a b c d : List S), a.length = c.length → eqS (a ++ b) (c ++ d) = (eqS a c && eqS b d)
  | [], b, [], d, _ => by simp [eqS]
  | x :: a, b, y :: c, d, h => by
    simp only [List.cons_append, eqS]
    rw [eqS_append a b c d (by simpa using h), Bool.and_assoc]
  | [], _, _ :: _, _, h => by simp at h
  | _ :: _, _, [], _, h => by simp at h
theorem cmpS_append : ∀ (ks js : List Bool) (a b c d : List S), a.length = ks.length → c.length = ks.length → cmpS (ks ++ js) (a ++ b) (c ++ d) = (cmpS ks a c && cmpS js b d)
  | [], js, [], b, [], d, _, _ => by simp [cmpS]
  | k :: ks, js, x :: a, b, y :: c, d, h, h' => by
    simp only [List.cons_append, cmpS]
    rw [cmpS_append ks js a b c d (by simpa using h) (by simpa using h'), Bool.and_assoc]
  | [], _, _ :: _, _, _, _, h, _ => by simp at h
  | [], _, [], _, _ :: _, _, _, h => by simp at h
  | _ :: _, _, [], _, _, _, h, _ => by simp at h
  | _ :: _, _, _ :: _, _, [], _, _, h => by simp at h

/-- A value of a type, of its cells. -/
def repr (σ : Sg) (n : Option Nat) (xs : List S) : Value :=
  match n with
  | none => (xs.headD .u).tr σ
  | some _ => .agg (trs σ xs)

theorem sub_split (xs : List S) (o n m : Nat) : sub xs o (n + m) = sub xs o n ++ sub xs (o + n) m := by
  simp only [sub]
  rw [List.take_add, List.drop_drop]

theorem flat_shape {d : Nat} {T : TypeId} {l : List Bool} (h : flat P d T = some l) : ∃ m, shapeOf P T = some m ∧ (m = none → l.length = 1) ∧ (∀ k, m = some k → k = l.length) ∧ P.cellsOf T = l.length := by
  cases d with
  | zero => simp [flat] at h
  | succ d =>
    unfold flat at h
    split at h
    · rename_i i k hi hu
      split at h
      · rename_i hs; cases h; exact ⟨none, by simp [shapeOf, hi, hu], fun _ => rfl, (fun k hk => by cases hk), by simp [Program.cellsOf, hi, hs]⟩
      · cases h
    · rename_i i hi hu
      split at h
      · rename_i hs; cases h; exact ⟨none, by simp [shapeOf, hi, hu], fun _ => rfl, (fun k hk => by cases hk), by simp [Program.cellsOf, hi, hs]⟩
      · cases h
    · rename_i i fs hi hu
      split at h
      · cases h
      · split at h
        · rename_i m hm
          split at h
          · rename_i he; cases h; exact ⟨some i.size, by simp [shapeOf, hi, hu], (fun hk => by cases hk), (fun k hk => by cases hk; exact he), by simp [Program.cellsOf, hi, he]⟩
          · cases h
        · cases h
    · rename_i i a e hi hu
      split at h
      · rename_i m hm
        split at h
        · rename_i he; cases h; exact ⟨some i.size, by simp [shapeOf, hi, hu], (fun hk => by cases hk), (fun k hk => by cases hk; exact he), by simp [Program.cellsOf, hi, he]⟩
        · cases h
      · cases h
    · cases h

theorem run_part_flat {d : Nat} {T : TypeId} {l : List Bool} (hf : flat P d T = some l) (w : World) (σ : Sg) (xs : List S) (off : Nat) (hlen : off + l.length ≤ xs.length) :
    ∃ m, shapeOf P T = some m ∧ (part T (trs σ xs) off).run P w = .ok (repr σ m (sub xs off l.length)) w := by
  obtain ⟨m, hm, h1, h2, _⟩ := flat_shape hf
  refine ⟨m, hm, ?_⟩
  cases m with
  | none =>
    have hl := h1 rfl
    rw [hl] at hlen ⊢
    have hg : xs[off]? = some (xs[off]'(by omega)) := List.getElem?_eq_getElem (by omega)
    rw [run_part_none w hm σ xs off hg]
    have : sub xs off 1 = [xs[off]'(by omega)] := by
      apply List.ext_getElem?
      intro i
      by_cases hi : i < 1
      · rw [sub_get hi]; obtain rfl : i = 0 := by omega
        simp [hg]
      · rw [List.getElem?_eq_none (by rw [sub_length hlen]; omega), List.getElem?_eq_none (by simp; omega)]
    simp [repr, this]
  | some k =>
    obtain rfl := h2 k rfl
    simp [repr, run_part_some w hm σ xs off]

/-- == on a flat type. -/
def EqFlat (P : Program) (d : Nat) : Prop := ∀ (T : TypeId) (l : List Bool) (m : Option Nat) (D : Nat) (w : World) (σ : Sg) (xs ys : List S), flat P d T = some l → shapeOf P T = some m → d ≤ D →
  cmpS l xs ys = true → (Op.equalIn D T (repr σ m xs) (repr σ m ys)).run P w = .ok (eqS xs ys) w

theorem eqFields_flat {d : Nat} (IH : EqFlat P d) {D : Nat} (hD : d ≤ D) (w : World) (σ : Sg) (xs ys : List S) : ∀ (fs : List Field) (o : Nat) (l : List Bool), flatFs (flat P d) fs o = some l → o + l.length ≤ xs.length → o + l.length ≤ ys.length →
    cmpS l (sub xs o l.length) (sub ys o l.length) = true → (Op.eqFields D (trs σ xs) (trs σ ys) fs).run P w = .ok (eqS (sub xs o l.length) (sub ys o l.length)) w
  | [], o, l, hf, _, _, _ => by
    simp only [flatFs, Option.some.injEq] at hf
    subst hf
    simp [Op.eqFields, sub, eqS]
  | f :: fs, o, l, hf, hx, hy, hc => by
    simp only [flatFs] at hf
    split at hf
    · rename_i hno
      obtain ⟨hname, hoff⟩ := hno
      cases hm : flat P d f.type with
      | none => simp [hm] at hf
      | some k =>
        cases hr : flatFs (flat P d) fs (o + k.length) with
        | none => simp [hm, hr] at hf
        | some l' =>
        simp only [hm, hr, Option.some.injEq] at hf
        subst hf
        simp only [List.length_append] at hx hy hc ⊢
        rw [sub_split, sub_split] at hc ⊢
        have hl1 : (sub xs o k.length).length = k.length := sub_length (by omega)
        have hl2 : (sub ys o k.length).length = k.length := sub_length (by omega)
        rw [cmpS_append _ _ _ _ _ _ hl1 hl2, Bool.and_eq_true] at hc
        rw [eqS_append _ _ _ _ (by rw [hl1, hl2])]
        obtain ⟨m, hsm, p1⟩ := run_part_flat hm w σ xs o (by omega)
        obtain ⟨m', hsm', p2⟩ := run_part_flat hm w σ ys o (by omega)
        obtain rfl : m = m' := by rw [hsm] at hsm'; cases hsm'; rfl
        have p3 := IH f.type k m D w σ (sub xs o k.length) (sub ys o k.length) hm hsm hD hc.1
        have ih := eqFields_flat IH hD w σ xs ys fs (o + k.length) l' hr (by omega) (by omega) hc.2
        subst hoff
        simp only [Op.eqFields, hname, ne_eq, not_false_eq_true, if_true, Sem.run_bind, p1, p2, p3, Result.andThen_ok]
        cases eqS (sub xs f.offset k.length) (sub ys f.offset k.length)
        · simp
        · simpa using ih
    · cases hf

theorem eqItems_flat {d : Nat} (IH : EqFlat P d) {D : Nat} (hD : d ≤ D) (w : World) (σ : Sg) (xs ys : List S) {e : TypeId} {k : List Bool} (hk : flat P d e = some k) : ∀ (len i : Nat), i * k.length + (rep k len).length ≤ xs.length → i * k.length + (rep k len).length ≤ ys.length →
    cmpS (rep k len) (sub xs (i * k.length) (rep k len).length) (sub ys (i * k.length) (rep k len).length) = true →
    (Op.eqItems D e (P.cellsOf e) (trs σ xs) (trs σ ys) (List.range' i len)).run P w = .ok (eqS (sub xs (i * k.length) (rep k len).length) (sub ys (i * k.length) (rep k len).length)) w
  | 0, i, _, _, _ => by simp [Op.eqItems, sub, eqS, rep]
  | len + 1, i, hx, hy, hc => by
    obtain ⟨_, _, _, _, hcell⟩ := flat_shape hk
    simp only [rep, List.length_append] at hx hy hc ⊢
    have e2 : i * k.length + k.length = (i + 1) * k.length := by rw [Nat.add_mul, Nat.one_mul]
    rw [sub_split, sub_split, e2] at hc ⊢
    have hl1 : (sub xs (i * k.length) k.length).length = k.length := sub_length (by omega)
    have hl2 : (sub ys (i * k.length) k.length).length = k.length := sub_length (by omega)
    rw [cmpS_append _ _ _ _ _ _ hl1 hl2, Bool.and_eq_true] at hc
    rw [eqS_append _ _ _ _ (by rw [hl1, hl2])]
    obtain ⟨m, hsm, p1⟩ := run_part_flat hk w σ xs (i * k.length) (by omega)
    obtain ⟨m', hsm', p2⟩ := run_part_flat hk w σ ys (i * k.length) (by omega)
    obtain rfl : m = m' := by rw [hsm] at hsm'; cases hsm'; rfl
    have p3 := IH e k m D w σ (sub xs (i * k.length) k.length) (sub ys (i * k.length) k.length) hk hsm hD hc.1
    have ih := eqItems_flat IH hD w σ xs ys hk len (i + 1) (by omega) (by omega) hc.2
    simp only [List.range'_succ, Op.eqItems, hcell, Sem.run_bind, p1, p2, p3, Result.andThen_ok]
    rw [hcell] at ih
    cases eqS (sub xs (i * k.length) k.length) (sub ys (i * k.length) k.length)
    · simp
    · simpa using ih

theorem sub_all {xs : List S} {n : Nat} (h : xs.length = n) : sub xs 0 n = xs := by
  subst h; simp [sub]

theorem eqFlat : ∀ d, EqFlat P d
  | 0 => fun T n m D w σ xs ys h => by simp [flat] at h
  | d + 1 => fun T n m D w σ xs ys h hm hD hc => by
    have IH := eqFlat d
    obtain ⟨hx, hy⟩ := cmpS_length hc
    obtain ⟨D, rfl⟩ : ∃ D', D = D' + 1 := ⟨D - 1, by omega⟩
    unfold flat at h
    split at h
    · rename_i i k hi hu
      split at h
      · cases h
        obtain rfl : m = none := by simp only [shapeOf, hi, hu, Option.some.injEq] at hm; exact hm.symm
        obtain ⟨x, rfl⟩ := List.length_eq_one_iff.1 hx
        obtain ⟨y, rfl⟩ := List.length_eq_one_iff.1 hy
        simp only [cmpS, Bool.and_true] at hc
        cases x <;> cases y <;> simp only [cmp1, decide_eq_true_eq, Bool.false_eq_true] at hc
        subst hc
        simp [repr, S.tr, Op.equalIn, run_underlying hu, eqS, eq1]
      · cases h
    · rename_i i hi hu
      split at h
      · cases h
        obtain rfl : m = none := by simp only [shapeOf, hi, hu, Option.some.injEq] at hm; exact hm.symm
        obtain ⟨x, rfl⟩ := List.length_eq_one_iff.1 hx
        obtain ⟨y, rfl⟩ := List.length_eq_one_iff.1 hy
        simp only [cmpS, Bool.and_true] at hc
        cases x <;> cases y <;> simp only [cmp1, Bool.false_eq_true] at hc
        simp [repr, S.tr, Op.equalIn, run_underlying hu, eqS, eq1]
      · cases h
    · rename_i i fs hi hu
      split at h
      · cases h
      · rename_i hst
        split at h
        · rename_i m' hm'
          split at h
          · rename_i he
            cases h
            obtain rfl : m = some i.size := by simp only [shapeOf, hi, hu, Option.some.injEq] at hm; exact hm.symm
            have hfo : P.fieldsOf T = fs := by simp [Program.fieldsOf, hu]
            have := eqFields_flat IH (D := D) (by omega) w σ xs ys fs.toList 0 n hm' (by omega) (by omega) (by rw [sub_all hx, sub_all hy]; exact hc)
            rw [sub_all hx, sub_all hy] at this
            simp only [repr]
            rw [run_equalIn_struct w D T _ _ (by rw [hfo]; exact hu) (by simpa using hst), hfo, this]
          · cases h
        · cases h
    · rename_i i a e hi hu
      split at h
      · rename_i k hk
        split at h
        · rename_i he
          cases h
          obtain rfl : m = some i.size := by simp only [shapeOf, hi, hu, Option.some.injEq] at hm; exact hm.symm
          obtain ⟨me, hme, _, _, _⟩ := flat_shape hk
          have hie : ∃ ie, P.info? e = some ie := by
            unfold shapeOf at hme; split at hme <;> first | exact ⟨_, by assumption⟩ | cases hme
          obtain ⟨ie, hie⟩ := hie
          have := eqItems_flat IH (D := D) (by omega) w σ xs ys hk a 0 (by omega) (by omega) (by rw [Nat.zero_mul, sub_all hx, sub_all hy]; exact hc)
          rw [Nat.zero_mul, sub_all hx, sub_all hy] at this
          simp only [repr]
          rw [run_equalIn_array w D _ _ hu hie, List.range_eq_range', this]
        · cases h
      · cases h
    · cases h

theorem looks_eqa {q : Bool} {T U : TypeId} {x y : Operand} {x' y' : Opd} {l : List Bool} (ho : o.op = .binOp (if q then .neq else .eql) T x y U)
    (hs : (∃ fs, P.underlying T = some (.struct fs)) ∨ ∃ n e, P.underlying T = some (.array n e)) (hf : flat P 20 T = some l) (hg : P.eqGuardType P.depth T = false)
    (hx : compX x = some x') (hy : compX y = some y') : Looks P o (.eqa q l x' y') := by
  intro Γ σ t a ls h K hT hV hK
  obtain ⟨_, h2⟩ := ev_is hT hx
  obtain ⟨_, y2⟩ := ev_is hT hy
  simp only [iwp] at hK
  split at hK
  · rename_i xs ys hq hq'
    obtain ⟨hc, hK⟩ := hK
    rw [hq] at h2; rw [hq'] at y2
    have hv := h2.eq (by simp)
    have hw := y2.eq (by simp)
    simp only [V.tr] at hv hw
    refine ⟨_, _, hK, rfl, Is.mk _, fun w _ => ?_⟩
    have hm : ∃ k, shapeOf P T = some (some k) := by
      obtain ⟨m, hm, _, _⟩ := flat_shape hf
      cases hi : P.info? T with
      | none => simp [shapeOf, hi] at hm
      | some i => rcases hs with ⟨fs, hs⟩ | ⟨n, e, hs⟩ <;> exact ⟨i.size, by simp [shapeOf, hi, hs]⟩
    obtain ⟨k, hm⟩ := hm
    have := eqFlat 20 T l (some k) 10000 w σ xs ys hf hm (by omega) hc
    simp only [repr] at this
    cases q
    · simp [execOp, ho, hv, hw, V.tr, S.tr, run_eqGuard_agg w _ _ _ _ _ _ hg, run_eql_struct, this]
    · simp [execOp, ho, hv, hw, V.tr, S.tr, run_eqGuard_agg w _ _ _ _ _ _ hg, run_neq_struct, this]
  · exact hK.elim

end
end Go.D
