/- Soundness: calls, regions, code, functions. -/
import Derived.Test.YtdlloccodmdnnaaZ5
/- Soundness: calls, regions, code, functions. -/
namespace Go.D
set_option linter.all false

section
variable {P : Program} {o : Oper} {Γ : FuncId → FSpec}

theorem callFunc_run {f : FuncId} (hf : FnOk P f) (args : Array Value) (w : World) : (callFunc f args).run P w = .ok (.enter f args) w := by
  obtain ⟨fn, h1, h2, h3⟩ := hf
  simp only [callFunc, Sem.run_bind, run_program, Result.andThen_ok, h1, h3, Bool.false_eq_true, if_false]
  have : fn.body.isNone = false := by cases hb : fn.body <;> simp [hb] at h2 ⊢
  simp [this]

theorem args_is {σ : Sg} {t : List V} {a : Act} {n m : Nat} (hT : TRel σ t a.tmps n m) : ∀ {xs : List Operand} {ys : List Opd}, compXs xs = some ys → (ys.map (ev t)).all V.known = true →
    xs.map a.eval = (ys.map (ev t)).map (V.tr σ) ∧ (ys.map (ev t)).all (V.val n m) = true
  | [], ys, hx, _ => by simp only [compXs, Option.some.injEq] at hx; subst hx; exact ⟨rfl, rfl⟩
  | x :: xs, ys, hx, hk => by
    simp only [compXs] at hx
    cases h1 : compX x with
    | none => simp [h1] at hx
    | some y =>
      cases h2 : compXs xs with
      | none => simp [h1, h2] at hx
      | some l =>
        simp only [h1, h2, Option.some.injEq] at hx
        subst hx
        simp only [List.map_cons, List.all_cons, Bool.and_eq_true] at hk ⊢
        obtain ⟨v1, v2⟩ := ev_is hT h1
        obtain ⟨i1, i2⟩ := args_is hT h2 hk.2
        have hne : ev t y ≠ .s .u := by intro e; rw [e] at hk; simp [V.known] at hk
        exact ⟨by rw [v2.eq hne, i1], v1, i2⟩

theorem V.known_ren {ρ : R → R} {v : V} : (v.ren ρ).known = v.known := by
  have hs : ∀ s : S, ((V.s (s.ren ρ)).known) = (V.s s).known := fun s => by cases s <;> rfl
  have hk : ∀ xs : List S, D.known (xs.map (S.ren ρ)) = D.known xs := fun xs => by
    simp only [D.known, List.all_map]
    congr 1
    funext s; cases s <;> rfl
  have hc : ∀ c : C, (c.ren ρ).known = c.known := fun c => by
    cases c with
    | s x => cases x <;> rfl
    | agg xs => exact hk xs
  cases v with
  | s x => exact hs x
  | agg xs => exact hk xs
  | tup cs =>
    simp only [V.ren, V.known, List.all_map]
    congr 1
    funext c; exact hc c

/-- A call. -/
theorem call_acts (hΓ : SndΓ P Γ) {σ0 : Sg} {h0 : List Blk} {w0 : World} {σ : Sg} {t : List V} {a : Act} {ls h : List Blk} {w : World} {f : FuncId} {args : List V} {vals : Array Value} {K : V → List Blk → List Blk → Prop} {next : Act → World → Prop} {Q : Exit → Act → World → Prop}
    (H : Inv σ0 h0 w0 σ h ls w) (hT : TRel σ t a.tmps h.length ls.length) (hvals : args.all V.known = true → vals = (args.map (V.tr σ)).toArray ∧ args.all (V.val h.length ls.length) = true) (hrun : FnOk P f → (execOp a.eval o).run P w = .ok (.enter f vals) w)
    (hK : callK Γ f args ls h K) (hn : ∀ σ' v x ls' h' w', Inv σ0 h0 w0 σ' h' ls' w' → TRel σ' t a.tmps h'.length ls'.length → v.val h'.length ls'.length = true → Is σ' v x → K v ls' h' → next (a.put o.dst x) w') :
    o.wp P a w next Q := by
  unfold callK at hK
  obtain ⟨hkn, hK⟩ := hK
  obtain ⟨hv1, hv2⟩ := hvals hkn
  cases hno : args.all V.noL
  · rw [hno] at hK
    simp only [bcase, Bool.false_eq_true, if_false] at hK
    obtain ⟨hok, hs⟩ := hΓ _ _ _ _ hK
    have hS := H.sim.lend
    have hkn' : (args.map (V.ren (R.lend h.length))).all V.known = true := by
      simp only [List.all_map, List.all_eq_true] at hkn ⊢
      exact fun x hx => by show (x.ren _).known = true; rw [V.known_ren]; exact hkn x hx
    have hval' : (args.map (V.ren (R.lend h.length))).all (V.val (h ++ ls.map (Blk.ren (R.lend h.length))).length 0) = true := by
      simp only [List.all_map, List.all_eq_true, List.length_append, List.length_map] at hv2 ⊢
      exact fun x hx => V.val_ren (lend_vals _ _) (hv2 x hx)
    have htr : ((args.map (V.ren (R.lend h.length))).map (V.tr (lendS σ h.length))).toArray = (args.map (V.tr σ)).toArray := by
      congr 1
      rw [List.map_map]
      simp only [List.all_eq_true] at hv2
      exact List.map_congr_left fun x hx => V.tr_keeps (lend_keeps _ _) (hv2 x hx)
    have hC := hs _ _ w _ _ hS hval' hkn' hK
    rw [htr] at hC
    unfold Oper.wp
    rw [hrun hok, hv1]
    refine hC.mono ?_
    rintro e w' ⟨v, h', σ', rfl, k1, k2, H1, ⟨e1, e2⟩, k3⟩
    have H2 := H.lent H1 e1 e2
    have hl1 : (h'.take h.length).length = h.length := by simp; omega
    have hl2 : ((h'.drop h.length).map (Blk.ren (R.unlend h.length))).length = h'.length - h.length := by simp
    have hA : Agree h.length ls.length σ (backS σ' h.length) := by
      intro r hr
      cases r with
      | g k =>
        simp only [R.val, decide_eq_true_eq] at hr
        show σ' (.g k) = _
        rw [H1.old k (by simp; omega)]; simp [lendS, hr]
      | l k =>
        simp only [R.val, decide_eq_true_eq] at hr
        show σ' (.g (h.length + k)) = _
        rw [H1.old (h.length + k) (by simp; omega)]
        simp only [lendS, if_neg (by omega : ¬ h.length + k < h.length)]; congr 2; omega
    refine hn _ (v.ren (R.unlend h.length)) _ _ _ w' H2 (hT.mono hA (by rw [hl1]; exact Nat.le_refl _) (by rw [hl2]; omega)) ?_ (.inr ?_) k3
    · rw [hl1, hl2]
      rw [show h'.length = h.length + (h'.length - h.length) by omega] at k2
      exact V.val_ren (back_vals _ _) k2
    · exact (V.tr_keeps (back_keeps σ' _ _) k2).symm
  · rw [hno] at hK
    simp only [bcase, if_true] at hK
    obtain ⟨hok, hs⟩ := hΓ _ _ _ _ hK
    have hval' : args.all (V.val h.length 0) = true := by
      simp only [List.all_eq_true] at hv2 hno ⊢
      exact fun x hx => V.val_noL (hv2 x hx) (hno x hx)
    have hC := hs _ _ w _ _ H.sim.glob hval' hkn hK
    unfold Oper.wp
    rw [hrun hok, hv1]
    refine hC.mono ?_
    rintro e w' ⟨v, h', σ', rfl, k1, k2, H1, k3⟩
    have H2 := H.call H1
    refine hn _ v _ _ _ w' H2 (hT.mono (mix_agree H1 _) H1.len (Nat.le_refl _)) (V.val_mono (Nat.le_refl _) (Nat.zero_le _) k2) (.inr ?_) k3
    exact (V.tr_congr (mix_agree0 σ σ' _) v k2).symm

theorem ofValue_func (f : FuncId) (cs args : Array Value) (w : World) : (Deferred.ofValue (.func (.func f) #[] cs) args).run P w = .ok { target := .fn (.func f) cs, args := args } w := by
  simp [Deferred.ofValue]

theorem acts_call (hΓ : SndΓ P Γ) {f : FuncId} {c : Call} {ys : List Opd} (ho : o.op = .call c) (hc : c.callee = .value (.func f)) (hx : compXs c.args.toList = some ys) : Acts P Γ o (.call f ys) := by
  intro σ0 h0 w0 σ t a ls h w K next Q H hT hK hn
  simp only [iwp] at hK
  refine call_acts hΓ (vals := c.args.map a.eval) H hT (fun hk => ?_) (fun hok => ?_) hK (fun σ' v x ls' h' w' => hn σ' t v x ls' h' w')
  · obtain ⟨h1, h2⟩ := args_is hT hx hk
    refine ⟨?_, h2⟩
    rw [← h1, ← Array.toList_map, Array.toArray_toList]
  · have he : a.eval (.func f) = .func (.func f) #[] #[] := rfl
    simp [execOp, ho, resolve, hc, he, ofValue_func, invoke, callFunc_run hok]

theorem acts_callv (hΓ : SndΓ P Γ) {i : Tmp} {c : Call} {ys : List Opd} (ho : o.op = .call c) (hc : c.callee = .value (.tmp i)) (hx : compXs c.args.toList = some ys) : Acts P Γ o (.callv (.t i) ys) := by
  intro σ0 h0 w0 σ t a ls h w K next Q H hT hK hn
  simp only [iwp] at hK
  obtain ⟨e1, e2⟩ := ev_is hT (x := .tmp i) (y := .t i) rfl
  split at hK
  · rename_i g cs hq
    rw [hq] at e1 e2
    have hv := e2.eq (by simp)
    simp only [V.tr, S.tr] at hv
    refine call_acts hΓ (vals := c.args.map a.eval ++ (cs.map fun x => Value.pointer (some (adr σ x.1 x.2))).toArray) H hT (fun hk => ?_) (fun hok => ?_) hK (fun σ' v x ls' h' w' => hn σ' t v x ls' h' w')
    · simp only [List.all_append, Bool.and_eq_true] at hk
      obtain ⟨h1, h2⟩ := args_is hT hx hk.1
      refine ⟨?_, ?_⟩
      · rw [List.map_append, List.map_map]
        have : (c.args.map a.eval) = ((ys.map (ev t)).map (V.tr σ)).toArray := by rw [← h1, ← Array.toList_map, Array.toArray_toList]
        rw [this]
        simp only [List.append_toArray]
        congr 1
        simp only [List.map_map]; rfl
      · simp only [List.all_append, Bool.and_eq_true]
        refine ⟨h2, ?_⟩
        simp only [V.val, S.val, List.all_eq_true] at e1
        simp only [List.all_map, List.all_eq_true]
        exact fun x hx => e1 x hx
    · simp [execOp, ho, resolve, hc, hv, ofValue_func, invoke, callFunc_run hok]
  · exact hK.elim

theorem acts_all (hΓ : SndΓ P Γ) {op : I} (hc : compI P o = some op) : Acts P Γ o op := by
  cases hs : op.still
  case true => exact acts_of_looks (looks_all hc hs)
  unfold compI at hc
  split at hc
  · rename_i x ho
    cases hx : compX x with
    | none => simp [hx] at hc
    | some y => simp only [hx, Option.map_some, Option.some.injEq] at hc; subst hc; cases hs
  · rename_i x ho
    cases hx : compX x with
    | none => simp [hx] at hc
    | some y => simp only [hx, Option.map_some, Option.some.injEq] at hc; subst hc; cases hs
  · rename_i c x y ho
    split at hc
    · cases hc; cases hs
    · cases hc
  · rename_i T ho
    cases hz : zeroOf P T with
    | none => simp [hz] at hc
    | some z => simp only [hz, Option.map_some, Option.some.injEq] at hc; subst hc; exact acts_new ho hz
  · rename_i T x ho
    cases hx : compX x with
    | none => simp [hx] at hc
    | some y => simp only [hx, Option.map_some, Option.some.injEq] at hc; subst hc; exact acts_box ho hx
  · rename_i T parts ho
    split at hc
    · rename_i z fs hz hu
      split at hc
      · cases hq : partsOf P (fieldPlaces P fs.toList) parts.toList with
        | none => simp [hq] at hc
        | some qs => simp only [hq, Option.map_some, Option.some.injEq] at hc; subst hc; cases hs
      · cases hc
    · rename_i z n e hz hu
      split at hc
      · rename_i i hi
        cases hq : partsOf P (fun j => some (j * i.size, i.size)) parts.toList with
        | none => simp [hq] at hc
        | some qs => simp only [hq, Option.map_some, Option.some.injEq] at hc; subst hc; cases hs
      · cases hc
    · cases hc
  · rename_i T n parts ho
    split at hc
    · rename_i e hu
      split at hc
      · rename_i i z hi hz
        split at hc
        · rename_i hcond
          cases hq : partsOf P (fun j => some (j * i.size, i.size)) parts.toList with
          | none => simp [hq] at hc
          | some qs => simp only [hq, Option.map_some, Option.some.injEq] at hc; subst hc; exact acts_bsl ho hu hi hz hcond.1 hcond.2 hq
        · cases hc
      · cases hc
    · cases hc
  · split at hc
    · cases hc; cases hs
    · cases hc
  · rename_i T x y ho
    split at hc
    · rename_i x' y' i hx hy hi; cases hc; exact acts_st ho hi hx hy
    · cases hc
  · rename_i x ho
    cases hx : compX x with
    | none => simp [hx] at hc
    | some y => simp only [hx, Option.map_some, Option.some.injEq] at hc; subst hc; cases hs
  · split at hc
    · split at hc <;> (repeat' split at hc) <;> first | (cases hc; done) | (cases hc; cases hs)
    · cases hc
  · rename_i u T x ho
    cases hx : compX x with
    | none => simp [hx] at hc
    | some y => simp only [hx, Option.map_some, Option.some.injEq] at hc; subst hc; cases hs
  · split at hc
    · cases hc; cases hs
    · cases hc
  · rename_i f first caps ho
    split at hc
    · cases hx : compXs caps.toList with
      | none => simp [hx] at hc
      | some ys => simp only [hx, Option.map_some, Option.some.injEq] at hc; subst hc; cases hs
    · cases hc
  · rename_i T n c ho
    split at hc
    · rename_i e n' c' hu hn hc'
      split at hc
      · rename_i i z hi hz
        split at hc
        · cases hc
        · rename_i hsz; cases hc; exact acts_mks ho hu hi hz hsz hn hc'
      · cases hc
    · cases hc
  · split at hc
    · cases hc
    · split at hc
      · split at hc
        · rename_i e hu
          cases hk : P.info? e with
          | none => simp [hk] at hc
          | some k => simp only [hk, Option.map_some, Option.some.injEq] at hc; subst hc; cases hs
        · rename_i n e hu
          cases hk : P.info? e with
          | none => simp [hk] at hc
          | some k => simp only [hk, Option.map_some, Option.some.injEq] at hc; subst hc; cases hs
        · cases hc
      · cases hc
  · split at hc
    · split at hc
      · split at hc
        · split at hc
          · cases hc
          · cases hc; cases hs
        · cases hc
      · cases hc
    · cases hc
  · split at hc
    · split at hc
      · rename_i fl hf
        cases hn : shapeOf P fl.type with
        | none => simp [hn] at hc
        | some n => simp only [hn, Option.map_some, Option.some.injEq] at hc; subst hc; cases hs
      · cases hc
    · cases hc
  · split at hc
    · rename_i n e x' i' hu hx hi
      cases hk : P.info? e with
      | none => simp [hk] at hc
      | some k => simp only [hk, Option.map_some, Option.some.injEq] at hc; subst hc; cases hs
    · rename_i e x' i' hu hx hi
      cases hk : P.info? e with
      | none => simp [hk] at hc
      | some k => simp only [hk, Option.map_some, Option.some.injEq] at hc; subst hc; cases hs
    · cases hc
  · split at hc
    · split at hc
      · cases hc; cases hs
      · cases hc
    · cases hc
  · rename_i x j ho
    cases hx : compX x with
    | none => simp [hx] at hc
    | some y => simp only [hx, Option.map_some, Option.some.injEq] at hc; subst hc; cases hs
  · rename_i c ho
    split at hc
    · rename_i f hcal
      split at hc
      · rename_i fn hfn
        split at hc
        · cases hx : compXs c.args.toList with
          | none => simp [hx] at hc
          | some ys => simp only [hx, Option.map_some, Option.some.injEq] at hc; subst hc; exact acts_call hΓ ho hcal hx
        · cases hc
      · cases hc
    · rename_i i hcal
      cases hx : compXs c.args.toList with
      | none => simp [hx] at hc
      | some ys => simp only [hx, Option.map_some, Option.some.injEq] at hc; subst hc; exact acts_callv hΓ ho hcal hx
    · split at hc
      · rename_i x T ha hat
        split at hc
        · rename_i e hu
          cases hx : compX x with
          | none => simp [hx] at hc
          | some y => simp only [hx, Option.map_some, Option.some.injEq] at hc; subst hc; cases hs
        · cases hc
      · cases hc
    · rename_i hcal
      split at hc
      · rename_i x y T U ha hat
        split at hc
        · rename_i e f hT hU
          split at hc
          · rename_i i z x' y' hi hz hx hy
            split at hc
            · cases hc
            · rename_i hb; cases hc; exact acts_app ho hcal ha hat hT hU hi hz hb hx hy
          · cases hc
        · cases hc
      · cases hc
    · rename_i hcal
      split at hc
      · rename_i x y T U ha hat
        split at hc
        · rename_i e hu
          split at hc
          · rename_i i x' y' hi hx hy; cases hc; exact acts_cpy ho hcal ha hat hu hi hx hy
          · cases hc
        · cases hc
      · cases hc
    · split at hc
      · split at hc
        · cases hc; cases hs
        · cases hc
      · cases hc
    · split at hc
      · split at hc
        · cases hc; cases hs
        · cases hc
      · cases hc
    · cases hc
  · cases hc

end
end Go.D

