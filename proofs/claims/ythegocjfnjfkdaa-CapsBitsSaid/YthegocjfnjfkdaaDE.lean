/- Soundness of the instructions that only look. -/
import Derived.Test.YthegocjfnjfkdaaDD
namespace Go.D
set_option linter.all false

/-- A temporary's value is what it is said to be, if anything is said. -/
def Is (σ : Sg) (v : V) (x : Value) : Prop := v = .s .u ∨ x = v.tr σ

structure TRel (σ : Sg) (t : List V) (tmps : Array Value) (n m : Nat) : Prop where
  size : t.length = tmps.size
  at_ : ∀ (i : Nat) (v : V), t[i]? = some v → v.val n m = true ∧ ∃ x, tmps[i]? = some x ∧ Is σ v x

theorem Is.mk {σ : Sg} (v : V) : Is σ v (v.tr σ) := .inr rfl

theorem ofS_tr {v : Value} {s : S} (h : ofS v = some s) (σ : Sg) : s.tr σ = v ∧ s.val 0 0 = true ∧ s ≠ .u := by
  unfold ofS at h
  split at h <;> first | (cases h; done) | (cases h; exact ⟨rfl, rfl, by simp⟩)

theorem ofSs_tr : ∀ {vs : List Value} {l : List S}, ofSs vs = some l → ∀ σ : Sg, l.map (S.tr σ) = vs ∧ vals 0 0 l = true ∧ known l = true
  | [], l, h, σ => by simp only [ofSs, Option.some.injEq] at h; subst h; exact ⟨rfl, rfl, rfl⟩
  | v :: vs, l, h, σ => by
    simp only [ofSs] at h
    cases h1 : ofS v with
    | none => simp [h1] at h
    | some s =>
      cases h2 : ofSs vs with
      | none => simp [h1, h2] at h
      | some l' =>
        simp only [h1, h2, Option.some.injEq] at h
        subst h
        have a := ofS_tr h1 σ
        have b := ofSs_tr h2 σ
        refine ⟨by simp [a.1, b.1], by simp only [vals, List.all_cons, Bool.and_eq_true]; exact ⟨a.2.1, b.2.1⟩, ?_⟩
        simp only [known, List.all_cons, Bool.and_eq_true]
        refine ⟨?_, b.2.2⟩
        have := a.2.2
        cases s <;> simp at this ⊢

theorem ofV_tr {v : Value} {x : V} (h : ofV v = some x) (σ : Sg) : x.tr σ = v ∧ x.val 0 0 = true ∧ x.known = true := by
  have hs : (ofS v).map V.s = some x → x.tr σ = v ∧ x.val 0 0 = true ∧ x.known = true := fun h => by
    cases h1 : ofS v with
    | none => simp [h1] at h
    | some s =>
      simp only [h1, Option.map_some, Option.some.injEq] at h
      subst h
      have a := ofS_tr h1 σ
      refine ⟨a.1, a.2.1, ?_⟩
      have := a.2.2
      cases s <;> simp [V.known] at this ⊢
  unfold ofV at h
  split at h
  · rename_i cs
    cases h1 : ofSs cs.toList with
    | none => simp [h1] at h
    | some l =>
      simp only [h1, Option.map_some, Option.some.injEq] at h
      subst h
      have a := ofSs_tr h1 σ
      refine ⟨?_, a.2.1, a.2.2⟩
      simp only [V.tr, trs, a.1]
  · exact hs h

theorem ev_is {σ : Sg} {t : List V} {a : Act} {n m : Nat} (hT : TRel σ t a.tmps n m) {x : Operand} {y : Opd} (hx : compX x = some y) :
    (ev t y).val n m = true ∧ Is σ (ev t y) (a.eval x) := by
  cases x with
  | tmp i =>
    simp only [compX, Option.some.injEq] at hx
    subst hx
    simp only [ev, Act.eval]
    rcases Nat.lt_or_ge i t.length with hlt | hge
    · have hi : t[i]? = some t[i] := List.getElem?_eq_getElem hlt
      obtain ⟨h1, x, h2, h3⟩ := hT.at_ i _ hi
      rw [show t.getD i (.tup []) = t[i] by simp [List.getD, hi]]
      refine ⟨h1, ?_⟩
      rw [Array.getD_eq_getD_getElem?, h2]; exact h3
    · rw [show t.getD i (.tup []) = .tup [] by simp [List.getD, List.getElem?_eq_none hge]]
      refine ⟨rfl, .inr ?_⟩
      rw [Array.getD_eq_getD_getElem?, Array.getElem?_eq_none (by rw [← hT.size]; exact hge)]; rfl
  | const v =>
    simp only [compX] at hx
    cases h1 : ofV v with
    | none => simp [h1] at hx
    | some w =>
      simp only [h1, Option.map_some, Option.some.injEq] at hx
      subst hx
      have a := ofV_tr h1 σ
      exact ⟨V.val_mono (Nat.zero_le _) (Nat.zero_le _) a.2.1, .inr a.1.symm⟩
  | global g => simp [compX] at hx
  | func f => simp only [compX, Option.some.injEq] at hx; subst hx; exact ⟨rfl, .inr rfl⟩

theorem Is.eq {σ : Sg} {v : V} {x : Value} (h : Is σ v x) (hv : v ≠ .s .u) : x = v.tr σ := h.resolve_left hv

/-- What an instruction that only looks does: one value, in whatever world the blocks stand. -/
def Looks (P : Program) (o : Oper) (op : I) : Prop :=
  ∀ (Γ : FuncId → FSpec) (σ : Sg) (t : List V) (a : Act) (ls h : List Blk) (K : List V → V → List Blk → List Blk → Prop),
    TRel σ t a.tmps h.length ls.length → (∀ r B, blk h ls r = some B → vals h.length ls.length B.cells = true) → iwp Γ op t ls h K →
    ∃ v x, K t v ls h ∧ v.val h.length ls.length = true ∧ Is σ v x ∧ ∀ w, Sim σ h ls w → (execOp a.eval o).run P w = .ok (.value x) w

section
variable {P : Program} {o : Oper}

theorem looks_mv {x : Operand} {y : Opd} (ho : o.op = .move x ∨ o.op = .assign x) (hx : compX x = some y) : Looks P o (.mv y) := by
  intro Γ σ t a ls h K hT hV hK
  obtain ⟨h1, h2⟩ := ev_is hT hx
  refine ⟨_, _, hK, h1, h2, fun w _ => ?_⟩
  rcases ho with ho | ho <;> simp [execOp, ho]

theorem looks_pick {c x y : Operand} {c' x' y' : Opd} (ho : o.op = .pick c x y) (hc : compX c = some c') (hx : compX x = some x') (hy : compX y = some y') : Looks P o (.pick c' x' y') := by
  intro Γ σ t a ls h K hT hV hK
  obtain ⟨_, c2⟩ := ev_is hT hc
  obtain ⟨x1, x2⟩ := ev_is hT hx
  obtain ⟨y1, y2⟩ := ev_is hT hy
  simp only [iwp] at hK
  split at hK
  · rename_i q hq
    rw [hq] at c2
    have hcv := c2.eq (by simp)
    cases q
    · exact ⟨_, _, hK, y1, y2, fun w _ => by simp [execOp, ho, hcv, V.tr, S.tr, asBool]⟩
    · exact ⟨_, _, hK, x1, x2, fun w _ => by simp [execOp, ho, hcv, V.tr, S.tr, asBool]⟩
  · exact hK.elim

theorem looks_nil {x : Operand} {y : Opd} (ho : o.op = .nilCheck x) (hx : compX x = some y) : Looks P o (.nil y) := by
  intro Γ σ t a ls h K hT hV hK
  obtain ⟨h1, h2⟩ := ev_is hT hx
  simp only [iwp] at hK
  split at hK
  · rename_i r n hq
    rw [hq] at h1 h2
    exact ⟨_, _, hK, h1, Is.mk _, fun w _ => by simp [execOp, ho, h2.eq (by simp), V.tr, S.tr]⟩
  · rename_i f cs hq
    rw [hq] at h1 h2
    exact ⟨_, _, hK, h1, Is.mk _, fun w _ => by simp [execOp, ho, h2.eq (by simp), V.tr, S.tr]⟩
  · exact hK.elim

theorem looks_un {u : UnOp} {T : TypeId} {x : Operand} {y : Opd} (ho : o.op = .unOp u T x) (hx : compX x = some y) : Looks P o (.un u y) := by
  intro Γ σ t a ls h K hT hV hK
  obtain ⟨h1, h2⟩ := ev_is hT hx
  simp only [iwp] at hK
  split at hK
  · rename_i s hq
    rw [hq] at h2
    unfold un1 at hK
    split at hK
    · exact ⟨_, _, hK, rfl, Is.mk _, fun w _ => by simp [execOp, ho, h2.eq (by simp), V.tr, S.tr, Op.unary]⟩
    · exact ⟨_, _, hK, rfl, Is.mk _, fun w _ => by simp [execOp, ho, h2.eq (by simp), V.tr, S.tr, Op.unary, Op.intArith]⟩
    · exact ⟨_, _, hK, rfl, Is.mk _, fun w _ => by simp [execOp, ho, h2.eq (by simp), V.tr, S.tr, Op.unary, intBits_xor]⟩
    · exact hK.elim
  · exact hK.elim

theorem looks_conv {src dst : TypeId} {d : TypeDesc} {k : IntKind} {x : Operand} {y : Opd} (ho : o.op = .convert src dst x) (hs : P.underlying src = some d) (hd : P.underlying dst = some (.int k))
    (hx : compX x = some y) : Looks P o (.conv k y) := by
  intro Γ σ t a ls h K hT hV hK
  obtain ⟨h1, h2⟩ := ev_is hT hx
  simp only [iwp] at hK
  split at hK
  · rename_i k' n hq
    rw [hq] at h2
    refine ⟨_, _, hK, rfl, Is.mk _, fun w _ => ?_⟩
    have hr := run_convert_int w src dst k' n (P := P) (by simp [hs]) (by simp [Program.intKind, hd])
    simp only [Program.intKind, hd] at hr
    simp [execOp, ho, h2.eq (by simp), V.tr, S.tr, hr]
  · exact hK.elim

theorem looks_ext {x : Operand} {y : Opd} {j : Nat} (ho : o.op = .extract x j) (hx : compX x = some y) : Looks P o (.ext y j) := by
  intro Γ σ t a ls h K hT hV hK
  obtain ⟨h1, h2⟩ := ev_is hT hx
  simp only [iwp] at hK
  split at hK
  · rename_i cs hq
    split at hK
    · rename_i c hc
      rw [hq] at h1 h2
      simp only [V.val, List.all_eq_true] at h1
      refine ⟨_, (c.v).tr σ, hK, ?_, Is.mk _, fun w _ => ?_⟩
      · have := h1 c (List.mem_of_getElem? hc)
        cases c <;> exact this
      · have : c.v.tr σ = c.tr σ := by cases c <;> rfl
        rw [this]
        have hv := h2.eq (by simp)
        simp [execOp, ho, hv, V.tr, Instr.extract, hc]
    · exact hK.elim
  · exact hK.elim

theorem looks_fa {T : TypeId} {x : Operand} {y : Opd} {j : Nat} {fs : Array Field} {f : Field} {i : TypeInfo} (ho : o.op = .fieldAddr T x j) (hu : P.underlying T = some (.struct fs)) (hf : fs[j]? = some f)
    (hi : P.info? f.type = some i) (hs : i.size ≠ 0) (hx : compX x = some y) : Looks P o (.fa y f.offset) := by
  intro Γ σ t a ls h K hT hV hK
  obtain ⟨h1, h2⟩ := ev_is hT hx
  simp only [iwp] at hK
  split at hK
  · rename_i r n hq
    rw [hq] at h1 h2
    refine ⟨_, _, hK, h1, Is.mk _, fun w _ => ?_⟩
    have hadd : (adr σ r n).add f.offset = adr σ r (n + f.offset) := by
      unfold Addr.add adr; split
      · rename_i e; simp [e]
      · simp [Nat.add_assoc]
    simp [execOp, ho, h2.eq (by simp), V.tr, S.tr, Instr.fieldAt, run_underlying hu, hf, Instr.sureAddr, fieldPlace, sizeOf, typeInfo, hi, hs, hadd]
  · exact hK.elim

end
end Go.D
