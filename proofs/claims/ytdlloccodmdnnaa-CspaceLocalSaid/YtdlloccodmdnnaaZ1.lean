/- The equations by which the machine is evaluated, as one fact. -/
import Derived.Test.YtdlloccodmdnnaaZ0
/- Soundness: code, functions. -/
namespace Go.D
set_option linter.all false

theorem R.comp_tr (σ : Sg) (ρ : R → R) (s : S) : (s.ren ρ).tr σ = s.tr (fun r => σ (ρ r)) := by
  cases s with
  | fn f cs =>
    simp only [S.ren, S.tr, List.map_map]
    congr 2
  | _ => rfl

theorem trs_comp (σ : Sg) (ρ : R → R) (xs : List S) : trs σ (xs.map (S.ren ρ)) = trs (fun r => σ (ρ r)) xs := by
  simp only [trs, List.map_map]
  congr 1
  exact List.map_congr_left fun x _ => R.comp_tr σ ρ x

theorem C.comp_tr (σ : Sg) (ρ : R → R) (c : C) : (c.ren ρ).tr σ = c.tr (fun r => σ (ρ r)) := by
  cases c with
  | s x => exact R.comp_tr σ ρ x
  | agg xs => simp only [C.ren, C.tr, trs_comp]

theorem V.comp_tr (σ : Sg) (ρ : R → R) (v : V) : (v.ren ρ).tr σ = v.tr (fun r => σ (ρ r)) := by
  cases v with
  | s x => exact R.comp_tr σ ρ x
  | agg xs => simp only [V.ren, V.tr, trs_comp]
  | tup cs =>
    simp only [V.ren, V.tr, List.map_map]
    congr 2
    exact List.map_congr_left fun x _ => C.comp_tr σ ρ x

theorem S.ren_u {ρ : R → R} {s : S} (h : s ≠ .u) : s.ren ρ ≠ .u := by
  cases s <;> simp [S.ren] at *

theorem V.ren_u {ρ : R → R} {v : V} (h : v.ren ρ = .s .u) : v = .s .u := by
  cases v with
  | s x => cases x <;> simp [V.ren, S.ren] at *
  | _ => simp [V.ren] at h

/-- What tells less still holds. -/
theorem WkBy.sound {σ0 : Sg} {h0 : List Blk} {w0 : World} {ρ : R → R} {s s' : St} (W : WkBy h0.length ρ s s') {σ : Sg} {tm : Array Value} {w : World} (H : Inv σ0 h0 w0 σ s.h s.ls w) (hT : TRel σ s.t tm s.h.length s.ls.length) :
    Inv σ0 h0 w0 (fun r => σ (ρ r)) s'.h s'.ls w ∧ TRel (fun r => σ (ρ r)) s'.t tm s'.h.length s'.ls.length := by
  refine ⟨⟨⟨fun r B' hb => ?_, fun r r' B B' hb hb' hne hst hd => ?_, W.gval, W.lval⟩, H.kept, W.len, fun k hk => ?_, fun r B' hb hst => ?_, fun k hk hk' => ?_, fun k B0 B' hk0 hk hd => ?_⟩, ?_, fun i v' hv => ?_⟩
  · have hok := H.sim.ok (ρ r) _ (W.blks r B' hb)
    have hH : Holds σ w (ρ r) (B'.ren ρ).cells → Holds (fun r => σ (ρ r)) w r B'.cells := fun hh i s hs hu => by
      have := hh i (s.ren ρ) (by simp [Blk.ren, hs]) (S.ren_u hu)
      rw [R.comp_tr] at this
      exact this
    have hlen : (B'.ren ρ).cells.length = B'.cells.length := by simp [Blk.ren]
    unfold OkBlk at hok ⊢
    have hst : (B'.ren ρ).st = B'.st := rfl
    rw [hst] at hok
    cases hq : B'.st <;> rw [hq] at hok
    · obtain ⟨h1, h2, h3, h4⟩ := hok
      exact ⟨h1, hH h2, by rw [← hlen]; exact h3, h4⟩
    · exact ⟨hok.1, hH hok.2⟩
    · trivial
  · have hv : ∀ r B, blk s'.h s'.ls r = some B → r.val s'.h.length s'.ls.length = true := fun r B hb => by
      cases r with
      | g k => simp only [blk] at hb; simp only [R.val, decide_eq_true_eq]; exact (List.getElem?_eq_some_iff.1 hb).1
      | l k => simp only [blk] at hb; simp only [R.val, decide_eq_true_eq]; exact (List.getElem?_eq_some_iff.1 hb).1
    exact H.sim.sep (ρ r) (ρ r') _ _ (W.blks r B hb) (W.blks r' B' hb') (fun e => hne (W.inj r r' (hv r B hb) (hv r' B' hb') e)) hst hd
  · simp only [W.old k hk]; exact H.old k hk
  · rcases H.mine (ρ r) _ (W.blks r B' hb) hst with ⟨k, B0, e, e2, e3⟩ | h2
    · left
      have hk : k < h0.length := (List.getElem?_eq_some_iff.1 e2).1
      have hr : r.val s'.h.length s'.ls.length = true := by
        cases r with
        | g k => simp only [blk] at hb; simp only [R.val, decide_eq_true_eq]; exact (List.getElem?_eq_some_iff.1 hb).1
        | l k => simp only [blk] at hb; simp only [R.val, decide_eq_true_eq]; exact (List.getElem?_eq_some_iff.1 hb).1
      refine ⟨k, B0, W.inj r (.g k) hr ?_ (by rw [e, W.old k hk]), e2, e3⟩
      simp only [R.val, decide_eq_true_eq]
      have := W.len; omega
    · exact .inr h2
  · rcases W.new k hk hk' with ⟨j, hj, e⟩ | ⟨j, B, e, e2, e3⟩
    · show w0.heap.size ≤ (σ (ρ (.g k))).1
      have hb := W.blks (.g k) _ (List.getElem?_eq_getElem hk')
      rw [e] at hb ⊢
      exact H.new j hj (List.getElem?_eq_some_iff.1 hb).1
    · show w0.heap.size ≤ (σ (ρ (.g k))).1
      rw [e]
      rcases H.mine (.l j) B e2 e3 with ⟨_, _, q, _⟩ | h2
      · cases q
      · exact h2
  · have hb := W.blks (.g k) B' hk
    rw [W.old k (List.getElem?_eq_some_iff.1 hk0).1] at hb
    exact H.live k B0 _ hk0 hb hd
  · rw [W.size]; exact hT.size
  · obtain ⟨h1, h2⟩ := W.temps i v' hv
    refine ⟨h1, ?_⟩
    rcases h2 with rfl | h2
    · have hi : i < tm.size := by rw [← hT.size, ← W.size]; exact (List.getElem?_eq_some_iff.1 hv).1
      exact ⟨_, Array.getElem?_eq_getElem hi, .inl rfl⟩
    · obtain ⟨_, x, hx, hI⟩ := hT.at_ i _ h2
      refine ⟨x, hx, ?_⟩
      rcases hI with e | e
      · exact .inl (V.ren_u e)
      · exact .inr (by rw [e, V.comp_tr])

theorem R.val_below {n m m' : Nat} {r : R} (h : r.val n m = true) (hb : r.below m' = true) : r.val n m' = true := by
  cases r with
  | g k => exact h
  | l k => exact hb
theorem S.val_below {n m m' : Nat} {s : S} (h : s.val n m = true) (hb : s.below m' = true) : s.val n m' = true := by
  cases s with
  | p r o => exact R.val_below h hb
  | sl r o a c => exact R.val_below h hb
  | fn f cs =>
    simp only [S.val, S.below, List.all_eq_true] at *
    exact fun x hx => R.val_below (h x hx) (hb x hx)
  | _ => rfl
theorem vals_below {n m m' : Nat} {xs : List S} (h : vals n m xs = true) (hb : xs.all (S.below m') = true) : vals n m' xs = true := by
  simp only [vals, List.all_eq_true] at *
  exact fun x hx => S.val_below (h x hx) (hb x hx)
theorem C.val_below {n m m' : Nat} {c : C} (h : c.val n m = true) (hb : c.below m' = true) : c.val n m' = true := by
  cases c with
  | s x => exact S.val_below h hb
  | agg xs => exact vals_below h hb
theorem V.val_below {n m m' : Nat} {v : V} (h : v.val n m = true) (hb : v.below m' = true) : v.val n m' = true := by
  cases v with
  | s x => exact S.val_below h hb
  | agg xs => exact vals_below h hb
  | tup cs =>
    simp only [V.val, V.below, List.all_eq_true] at *
    exact fun x hx => C.val_below (h x hx) (hb x hx)

theorem leT_get : ∀ {t' t : List V}, leT t' t → t'.length = t.length ∧ ∀ (i : Nat) (v' : V), t'[i]? = some v' → v' = .s .u ∨ t[i]? = some v'
  | [], [], _ => ⟨rfl, fun i v' h => by simp at h⟩
  | v :: t', w :: t, h => by
    obtain ⟨h1, h2⟩ := leT_get h.2
    refine ⟨by simp [h1], fun i v' hi => ?_⟩
    cases i with
    | zero =>
      simp only [List.getElem?_cons_zero, Option.some.injEq] at hi ⊢
      subst hi
      rcases h.1 with e | e
      · exact .inl e
      · exact .inr e.symm
    | succ i => simp only [List.getElem?_cons_succ] at hi ⊢; exact h2 i v' hi
  | [], _ :: _, h => h.elim
  | _ :: _, [], h => h.elim

theorem Wk.sound {σ0 : Sg} {h0 : List Blk} {w0 : World} {s s' : St} (W : Wk h0.length s s') {σ : Sg} {tm : Array Value} {w : World} (H : Inv σ0 h0 w0 σ s.h s.ls w) (hT : TRel σ s.t tm s.h.length s.ls.length) :
    ∃ σ', Inv σ0 h0 w0 σ' s'.h s'.ls w ∧ TRel σ' s'.t tm s'.h.length s'.ls.length := by
  induction W generalizing σ with
  | refl => exact ⟨σ, H, hT⟩
  | by_ ρ h => exact ⟨_, h.sound H hT⟩
  | trans _ _ ih1 ih2 =>
    obtain ⟨σ1, H1, hT1⟩ := ih1 H hT
    exact ih2 H1 hT1
  | less ht =>
    rename_i t t' ls h
    refine ⟨σ, H, ?_, fun i v' hv => ?_⟩
    · rw [(leT_get ht).1]; exact hT.size
    · rcases (leT_get ht).2 i v' hv with rfl | e
      · have hi : i < tm.size := by rw [← hT.size, ← (leT_get ht).1]; exact (List.getElem?_eq_some_iff.1 hv).1
        exact ⟨rfl, _, Array.getElem?_eq_getElem hi, .inl rfl⟩
      · exact hT.at_ i v' e
  | cut junk ht hb hl =>
    rename_i t t' ls h
    simp only at *
    have hsub : ∀ r B, blk h ls r = some B → blk h (ls ++ junk) r = some B := fun r B hr => by
      cases r with
      | g k => exact hr
      | l k =>
        simp only [blk] at hr ⊢
        rw [List.getElem?_append_left (List.getElem?_eq_some_iff.1 hr).1]; exact hr
    refine ⟨σ, ⟨⟨fun r B hr => H.sim.ok r B (hsub r B hr), fun r r' B B' hr hr' => H.sim.sep r r' B B' (hsub r B hr) (hsub r' B' hr'), H.sim.gval, fun B hB => ?_⟩, H.kept, H.len, H.old, fun r B hr => H.mine r B (hsub r B hr), H.new, H.live⟩, ?_, fun i v' hv => ?_⟩
    · simp only [List.all_eq_true] at hl
      exact vals_below (H.sim.lval B (List.mem_append_left _ hB)) (by simp only [List.all_eq_true]; exact hl B hB)
    · rw [(leT_get ht).1]; exact hT.size
    · simp only [List.all_eq_true] at hb
      rcases (leT_get ht).2 i v' hv with rfl | e
      · have hi : i < tm.size := by rw [← hT.size, ← (leT_get ht).1]; exact (List.getElem?_eq_some_iff.1 hv).1
        exact ⟨rfl, _, Array.getElem?_eq_getElem hi, .inl rfl⟩
      · obtain ⟨h1, h2⟩ := hT.at_ i v' e
        exact ⟨V.val_below h1 (hb v' (List.mem_of_getElem? hv)), h2⟩

def exOf : Exit → Option Ex
  | .normal => some .nrm
  | .exit id => if id < 1000000 then some (.ext id) else none
  | .goto l => some (.ext (goId l))
  | .ret => some .ret
  | _ => none

/-- The state behind a piece of code, as the model has it. -/
def QK (σ0 : Sg) (h0 : List Blk) (w0 : World) (K : Ex → St → Prop) : Exit → Act → World → Prop := fun e a w =>
  match exOf e with
  | some x => ∃ (σ : Sg) (s : St), Inv σ0 h0 w0 σ s.h s.ls w ∧ TRel σ s.t a.tmps s.h.length s.ls.length ∧ a.defers = [] ∧ K x s
  | none => False

theorem QK.exit {σ0 : Sg} {h0 : List Blk} {w0 : World} {K K' : Ex → St → Prop} {id : Nat} {a : Act} {w : World} (hk : ∀ s, id < 1000000 → K (.ext id) s → K' (.ext id) s) (hq : QK σ0 h0 w0 K (.exit id) a w) : QK σ0 h0 w0 K' (.exit id) a w := by
  unfold QK at *
  by_cases h : id < 1000000
  · simp only [exOf, if_pos h] at *
    obtain ⟨σ, s, i1, i2, i3, i4⟩ := hq
    exact ⟨σ, s, i1, i2, i3, hk s h i4⟩
  · simp only [exOf, if_neg h] at hq
theorem QK.noexit {σ0 : Sg} {h0 : List Blk} {w0 : World} {K : Ex → St → Prop} {id : Nat} {a : Act} {w : World} (hk : ∀ s, ¬ K (.ext id) s) (hq : QK σ0 h0 w0 K (.exit id) a w) : False := by
  have := QK.exit (K' := fun _ _ => False) (fun s _ h => hk s h) hq
  unfold QK at this
  split at this
  · obtain ⟨_, _, _, _, _, h⟩ := this; exact h
  · exact this

/-- From a round's head on. -/
def LoopAt (P : Program) (c : Code) (Q : Exit → Act → World → Prop) (a : Act) (w : World) : Prop :=
  ∀ (b : Frame) (k : List Item) (cs : List Frame), ∃ e a' w', Q e a' w' ∧ Arrives P (lone (b.at a (.code c :: .inLoop c :: k)) cs w) b k cs e a' w'

theorem loop_of_at {P : Program} {c : Code} {Q : Exit → Act → World → Prop} {a : Act} {w : World} (h : LoopAt P c Q a w) : (Code.loop c).wp P Q a w := fun b k cs => by
  obtain ⟨e, a', w', hq, harr⟩ := h b k cs
  exact ⟨e, a', w', hq, .of_steps (.one step_loop) harr⟩

theorem at_of_round {P : Program} {c : Code} {Q : Exit → Act → World → Prop} {a : Act} {w : World} (h : c.wp P (Exit.then (LoopAt P c Q) Q) a w) : LoopAt P c Q a w := fun b k cs => by
  obtain ⟨e, a₁, w₁, hq, harr⟩ := h b (.inLoop c :: k) cs
  cases e with
  | normal =>
    obtain ⟨e₂, a₂, w₂, hq₂, harr₂⟩ := hq b k cs
    exact ⟨e₂, a₂, w₂, hq₂, .of_steps (Steps.trans harr (.one step_inLoop)) harr₂⟩
  | exit id => exact ⟨_, a₁, w₁, hq, .pass (x := .inLoop c) rfl (fun _ _ => .inl (by simp)) harr⟩
  | goto l => exact ⟨_, a₁, w₁, hq, .pass (x := .inLoop c) rfl (fun _ _ => .inl (by simp)) harr⟩
  | ret => exact ⟨_, a₁, w₁, hq, .pass (x := .inLoop c) rfl (fun _ _ => .inl (by simp)) harr⟩
  | panic ch => exact ⟨_, a₁, w₁, hq, .pass (x := .inLoop c) rfl (fun _ _ => .inl (by simp)) harr⟩
  | outgrown => exact ⟨_, a₁, w₁, hq, .pass (x := .inLoop c) rfl (fun _ _ => .inl (by simp)) harr⟩

/-- From a label on. -/
def ScopeAt (P : Program) (c rest : Code) (Q : Exit → Act → World → Prop) (a : Act) (w : World) : Prop :=
  ∀ (b : Frame) (k : List Item) (cs : List Frame), ∃ e a' w', Q e a' w' ∧ Arrives P (lone (b.at a (.code rest :: .inScope c :: k)) cs w) b k cs e a' w'

/-- As Q; by a goto to label l: J. -/
def jumpTo (l : Nat) (J : Act → World → Prop) (Q : Exit → Act → World → Prop) : Exit → Act → World → Prop
  | .goto l', a, w => if l' = l then J a w else Q (.goto l') a w
  | e, a, w => Q e a w

theorem findLabel_not {l : Nat} : ∀ {c : Code}, l ∉ labelsOf c → findLabel c l = none
  | .seq a b, h => by
    simp only [labelsOf, List.mem_append, not_or] at h
    simp only [findLabel, findLabel_not h.1, findLabel_not h.2]
  | .label l', h => by
    simp only [labelsOf, List.mem_singleton] at h
    simp only [findLabel]
    rw [if_neg]
    simpa using fun e => h e.symm
  | .skip, _ => rfl
  | .region .., _ => rfl
  | .cond .., _ => rfl
  | .block .., _ => rfl
  | .loop .., _ => rfl
  | .rangeFunc .., _ => rfl
  | .exit .., _ => rfl
  | .scope .., _ => rfl
  | .goto .., _ => rfl
  | .ret, _ => rfl
  | .refuse .., _ => rfl

theorem scope_jump {P : Program} {c : Code} {l : Nat} {m : Machine} {b : Frame} {k : List Item} {cs : List Frame} {e : Exit} {a : Act} {w : World} {J : Act → World → Prop} {Q : Exit → Act → World → Prop} {rest : Code} (hf : findLabel c l = some rest) (hn : ∀ l', l' ≠ l → findLabel c l' = none)
    (hJ : ∀ a w, J a w → ScopeAt P c rest Q a w) (hq : jumpTo l J Q e a w) (harr : Arrives P m b (.inScope c :: k) cs e a w) : ∃ e a' w', Q e a' w' ∧ Arrives P m b k cs e a' w' := by
  have hg : gotoIn l (.inScope c :: k) = some (.code rest :: .inScope c :: k) := by simp [gotoIn, hf]
  cases e with
  | normal => exact ⟨.normal, a, w, hq, Steps.trans harr (.one step_inScope)⟩
  | exit id => exact ⟨.exit id, a, w, hq, fun k' hk => harr k' (by simp [exitTo, hk])⟩
  | goto l' =>
    unfold jumpTo at hq
    simp only at hq
    split at hq
    · rename_i e; subst e
      obtain ⟨e₂, a₂, w₂, hq₂, harr₂⟩ := hJ a w hq b k cs
      exact ⟨e₂, a₂, w₂, hq₂, .of_steps (harr _ hg) harr₂⟩
    · rename_i e
      exact ⟨.goto l', a, w, hq, fun k' hk => harr k' (by simp [gotoIn, hn l' e, hk])⟩
  | ret => exact ⟨_, a, w, hq, harr⟩
  | panic ch => exact ⟨_, a, w, hq, harr⟩
  | outgrown => exact ⟨_, a, w, hq, harr⟩

theorem scope_of {P : Program} {c : Code} {l : Nat} {a : Act} {w : World} {J : Act → World → Prop} {Q : Exit → Act → World → Prop} {rest : Code} (hf : findLabel c l = some rest) (hn : ∀ l', l' ≠ l → findLabel c l' = none)
    (hJ : ∀ a w, J a w → ScopeAt P c rest Q a w) (h : c.wp P (jumpTo l J Q) a w) : (Code.scope c).wp P Q a w := fun b k cs => by
  obtain ⟨e, a₁, w₁, hq, harr⟩ := h b (.inScope c :: k) cs
  obtain ⟨e₂, a₂, w₂, hq₂, harr₂⟩ := scope_jump hf hn hJ hq harr
  exact ⟨e₂, a₂, w₂, hq₂, .of_steps (.one step_scope) harr₂⟩

theorem scopeAt_of {P : Program} {c : Code} {l : Nat} {a : Act} {w : World} {J : Act → World → Prop} {Q : Exit → Act → World → Prop} {rest : Code} (hf : findLabel c l = some rest) (hn : ∀ l', l' ≠ l → findLabel c l' = none)
    (hJ : ∀ a w, J a w → ScopeAt P c rest Q a w) (h : rest.wp P (jumpTo l J Q) a w) : ScopeAt P c rest Q a w := fun b k cs => by
  obtain ⟨e, a₁, w₁, hq, harr⟩ := h b (.inScope c :: k) cs
  exact scope_jump hf hn hJ hq harr

theorem scope_plain {P : Program} {c : Code} {a : Act} {w : World} {Q : Exit → Act → World → Prop} (hn : ∀ l', findLabel c l' = none) (h : c.wp P Q a w) : (Code.scope c).wp P Q a w := fun b k cs => by
  obtain ⟨e, a₁, w₁, hq, harr⟩ := h b (.inScope c :: k) cs
  cases e with
  | normal => exact ⟨.normal, a₁, w₁, hq, .head step_scope (Steps.trans harr (.one step_inScope))⟩
  | exit id => exact ⟨.exit id, a₁, w₁, hq, fun k' hk => .head step_scope (harr k' (by simp [exitTo, hk]))⟩
  | goto l => exact ⟨.goto l, a₁, w₁, hq, fun k' hk => .head step_scope (harr k' (by simp [gotoIn, hn l, hk]))⟩
  | ret => exact ⟨_, a₁, w₁, hq, .of_steps (.one step_scope) harr⟩
  | panic ch => exact ⟨_, a₁, w₁, hq, .of_steps (.one step_scope) harr⟩
  | outgrown => exact ⟨_, a₁, w₁, hq, .of_steps (.one step_scope) harr⟩

section
variable {P : Program} {Γ : FuncId → FSpec} {σ0 : Sg} {h0 : List Blk} {w0 : World}

theorem compGs_drop {ops : Array Oper} : ∀ (n : Nat) (os : List Oper) (l : List GI), compGs P ops os = some l → compGs P ops (os.drop n) = some (l.drop n) := by
  intro n
  induction n with
  | zero => intro os l h; simpa using h
  | succ n ih =>
    intro os l h
    cases os with
    | nil => simp only [compGs, Option.some.injEq] at h; subst h; simp [compGs]
    | cons o os => obtain ⟨g, l', rfl, _, h2⟩ := compGs_cons h; simpa using ih os l' h2

theorem still_quiet {l : List GI} (h : l.all (fun x => x.op.still) = true) : l.all (fun x => x.op.quiet) = true := by
  simp only [List.all_eq_true] at *
  intro x hx
  have := h x hx
  unfold I.quiet
  split
  · rfl
  · exact this

theorem drawn_sound (hΓ : SndΓ P Γ) (hm : P.follows .mixedOrders = true) {id : Nat} {ops : Array Oper} {gl : List GI} (hg : compGs P ops ops.toList = some gl) {d : DC} (hc : compDr ops gl = some d) {s : St} {a : Act} {w : World} {σ : Sg} {K : Ex → St → Prop}
    (H : Inv σ0 h0 w0 σ s.h s.ls w) (hT : TRel σ s.t a.tmps s.h.length s.ls.length) (hd : a.defers = []) (hK : dwp Γ h0.length d s K) : (Code.region id ops true).wp P (QK σ0 h0 w0 K) a w := by
  have quiet : gl.all (fun x => x.op.quiet) = true → Region.lexB .any ops = true → dwp Γ h0.length (.drq gl) s K → (Code.region id ops true).wp P (QK σ0 h0 w0 K) a w := fun hq hlex hK => by
    simp only [dwp] at hK
    refine wp_region_quiet (C := fun w => Inv σ0 h0 w0 σ s.h s.ls w) hm hlex (H.drawn _) ?_
    exact rqwp_sound hΓ σ s.ls s.h ops.toList gl hg hq s.t a _ _ ⟨w, H⟩ hT hK (fun t' a' i1 i2 i3 w' hw' => ⟨σ, ⟨t', s.ls, s.h⟩, hw', i1, by rw [i2, hd], i3⟩)
  unfold compDr at hc
  split at hc
  · rename_i hq
    cases hc
    exact quiet (still_quiet hq.1) hq.2 hK
  · split at hc
    · rename_i hlex
      cases hc
      simp only [dwp] at hK
      have hops : ops = ops.toList.toArray := by simp
      rw [hops]
      refine wp_region_still_tail (headLen gl) hm (by rw [← hops]; exact hlex) ?_
      refine head_sound (Γ := Γ) ops.toList gl (by rw [← hops]; exact hg) (headLen gl) (Nat.le_refl _) σ s.t a s.ls s.h _ _ _ (H.drawn (w.drawn + 1)) hT hK (fun t' a' i1 i2 i3 => ?_)
      have hdrop : compGs P ops (ops.toList.drop (headLen gl)) = some (gl.drop (headLen gl)) := compGs_drop _ _ _ hg
      exact rwp_sound hΓ _ _ (by rw [← hops]; exact hdrop) σ t' a' s.ls s.h _ _ _ (H.drawn (w.drawn + 1)) i1 i3 (fun σ' t2 ls' h' w' a2 j1 j2 j3 j4 => ⟨σ', ⟨t2, ls', h'⟩, j1, j2, by rw [j3, i2, hd], j4⟩)
    · split at hc
      · rename_i l hl
        cases hc
        simp only [dwp] at hK
        exact drm_sound hΓ hm hg hl H hT hK (fun σ' t' ls' h' w' a' j1 j2 j3 j4 => ⟨σ', ⟨t', ls', h'⟩, j1, j2, by rw [j3, hd], j4⟩)
          (fun c a' w' => by intro hh; unfold QK at hh; simp only [exOf] at hh)
      · split at hc
        · rename_i hq
          cases hc
          exact quiet hq.1 hq.2 hK
        · cases hc

theorem compT_find {l : Nat} : ∀ {c : Code} {r : DC}, compT P l c = some r → ∃ rest, findLabel c l = some rest
  | .seq a b, r, h => by
    simp only [compT] at h
    simp only [findLabel]
    split at h
    · rename_i x hx
      rw [hx]; exact ⟨_, rfl⟩
    · rename_i hx
      rw [hx]
      exact compT_find h
  | .label l', r, h => by
    simp only [compT] at h
    split at h
    · rename_i e; exact ⟨.skip, by simp [findLabel, e]⟩
    · cases h
  | .skip, _, h => by simp [compT] at h
  | .region .., _, h => by simp [compT] at h
  | .cond .., _, h => by simp [compT] at h
  | .block .., _, h => by simp [compT] at h
  | .loop .., _, h => by simp [compT] at h
  | .rangeFunc .., _, h => by simp [compT] at h
  | .exit .., _, h => by simp [compT] at h
  | .scope .., _, h => by simp [compT] at h
  | .goto .., _, h => by simp [compT] at h
  | .ret, _, h => by simp [compT] at h
  | .refuse .., _, h => by simp [compT] at h

mutual
theorem dwp_sound (hΓ : SndΓ P Γ) (hm : P.follows .mixedOrders = true) : ∀ (c : Code) (d : DC), compC P c = some d → ∀ (s : St) (a : Act) (w : World) (σ : Sg) (K : Ex → St → Prop),
    Inv σ0 h0 w0 σ s.h s.ls w → TRel σ s.t a.tmps s.h.length s.ls.length → a.defers = [] → dwp Γ h0.length d s K → c.wp P (QK σ0 h0 w0 K) a w
  | .skip, d, hc, s, a, w, σ, K, H, hT, hd, hK => by
    simp only [compC, Option.some.injEq] at hc; subst hc
    exact wp_skip ⟨σ, s, H, hT, hd, hK⟩
  | .region id ops false, d, hc, s, a, w, σ, K, H, hT, hd, hK => by
    simp only [compC] at hc
    cases hg : compGs P ops ops.toList with
    | none => simp [hg] at hc
    | some gl =>
      simp only [hg, Option.map_some, Option.some.injEq] at hc
      subst hc
      simp only [dwp] at hK
      exact wp_region_list (rwp_sound hΓ ops.toList gl hg σ s.t a s.ls s.h w _ _ H hT hK (fun σ' t' ls' h' w' a' i1 i2 i3 i4 => ⟨σ', ⟨t', ls', h'⟩, i1, i2, by rw [i3, hd], i4⟩))
  | .region id ops true, d, hc, s, a, w, σ, K, H, hT, hd, hK => by
    simp only [compC] at hc
    cases hg : compGs P ops ops.toList with
    | none => simp [hg] at hc
    | some gl =>
      simp only [hg] at hc
      exact drawn_sound hΓ hm hg hc H hT hd hK
  | .seq x y, d, hc, s, a, w, σ, K, H, hT, hd, hK => by
    simp only [compC] at hc
    split at hc
    · rename_i d1 d2 h1 h2
      cases hc
      simp only [dwp] at hK
      refine wp_seq (wp_mono (dwp_sound hΓ hm x d1 h1 s a w σ _ H hT hd hK) ?_)
      rintro e a' w' hq
      by_cases he : ∃ id, e = .exit id
      · obtain ⟨id, rfl⟩ := he
        refine QK.exit ?_ hq
        intro _ _ h; exact h
      unfold QK at hq
      cases e <;> simp only [exOf] at hq
      case exit id => exact absurd ⟨id, rfl⟩ he
      case normal =>
        obtain ⟨σ', s', i1, i2, i3, s2, iW, i4⟩ := hq
        obtain ⟨σ2, j1, j2⟩ := iW.sound i1 i2
        exact dwp_sound hΓ hm y d2 h2 s2 a' w' σ2 K j1 j2 i3 i4
      all_goals exact hq
    · cases hc
  | .cond c x y, d, hc, s, a, w, σ, K, H, hT, hd, hK => by
    simp only [compC] at hc
    split at hc
    · rename_i c' d1 d2 h0 h1 h2
      cases hc
      simp only [dwp] at hK
      obtain ⟨_, e2⟩ := ev_is hT h0
      split at hK
      · rename_i q hq
        rw [hq] at e2
        have hv := e2.eq (by simp)
        simp only [V.tr, S.tr] at hv
        refine wp_cond hv ?_
        cases q
        · simp only [bcase, Bool.false_eq_true, if_false] at hK ⊢
          obtain ⟨s', hW, hK⟩ := hK
          obtain ⟨σ, H, hT⟩ := hW.sound H hT
          exact dwp_sound hΓ hm y d2 h2 s' a w σ K H hT hd hK
        · simp only [bcase, if_true] at hK ⊢
          obtain ⟨s', hW, hK⟩ := hK
          obtain ⟨σ, H, hT⟩ := hW.sound H hT
          exact dwp_sound hΓ hm x d1 h1 s' a w σ K H hT hd hK
      · exact hK.elim
    · cases hc
  | .block id x, d, hc, s, a, w, σ, K, H, hT, hd, hK => by
    simp only [compC] at hc
    split at hc
    rotate_left
    · cases hc
    rename_i hid
    cases h1 : compC P x with
    | none => simp [h1] at hc
    | some d1 =>
      simp only [h1, Option.map_some, Option.some.injEq] at hc
      subst hc
      simp only [dwp] at hK
      refine wp_block (wp_mono (dwp_sound hΓ hm x d1 h1 s a w σ _ H hT hd hK) ?_)
      rintro e a' w' hq
      by_cases he : ∃ j, e = .exit j
      · obtain ⟨j, rfl⟩ := he
        simp only [Exit.inBlock]
        by_cases hj : j = id
        · rw [if_pos hj]
          unfold QK at hq ⊢
          simp only [exOf, hj, if_pos hid] at hq ⊢
          obtain ⟨σ', s', i1, i2, i3, i4⟩ := hq
          exact ⟨σ', s', i1, i2, i3, i4⟩
        · rw [if_neg hj]
          exact QK.exit (fun s _ h => by simpa only [if_neg hj] using h) hq
      unfold QK at hq
      cases e <;> simp only [exOf] at hq
      case exit j => exact absurd ⟨j, rfl⟩ he
      case goto l =>
        obtain ⟨σ', s', i1, i2, i3, i4⟩ := hq
        simp only [Exit.inBlock]
        rw [if_neg (by unfold goId; omega)] at i4
        exact ⟨σ', s', i1, i2, i3, i4⟩
      all_goals exact hq
  | .loop x, d, hc, s, a, w, σ, K, H, hT, hd, hK => by
    simp only [compC] at hc
    cases h1 : compC P x with
    | none => simp [h1] at hc
    | some d1 =>
      simp only [h1, Option.map_some, Option.some.injEq] at hc
      subst hc
      simp only [dwp] at hK
      refine loop_of_at ?_
      refine hK (fun s => ∀ (a : Act) (w : World) (σ : Sg), Inv σ0 h0 w0 σ s.h s.ls w → TRel σ s.t a.tmps s.h.length s.ls.length → a.defers = [] → LoopAt P x (QK σ0 h0 w0 K) a w) ?_ a w σ H hT hd
      intro s hs a w σ H hT hd
      obtain ⟨s, hW, hs⟩ := hs
      obtain ⟨σ, H, hT⟩ := hW.sound H hT
      refine at_of_round (wp_mono (dwp_sound hΓ hm x d1 h1 s a w σ _ H hT hd hs) ?_)
      rintro e a' w' hq
      by_cases he : ∃ id, e = .exit id
      · obtain ⟨id, rfl⟩ := he
        refine QK.exit ?_ hq
        intro _ _ h; exact h
      unfold QK at hq
      cases e <;> simp only [exOf] at hq
      case exit id => exact absurd ⟨id, rfl⟩ he
      case normal =>
        obtain ⟨σ', s', i1, i2, i3, i4⟩ := hq
        exact i4 a' w' σ' i1 i2 i3
      all_goals exact hq
  | .exit id, d, hc, s, a, w, σ, K, H, hT, hd, hK => by
    simp only [compC] at hc
    split at hc
    · rename_i hlt
      cases hc
      refine wp_exit ?_
      unfold QK
      simp only [exOf, if_pos hlt]
      exact ⟨σ, s, H, hT, hd, hK⟩
    · cases hc
  | .label l, d, hc, s, a, w, σ, K, H, hT, hd, hK => by
    simp only [compC, Option.some.injEq] at hc; subst hc
    exact wp_label ⟨σ, s, H, hT, hd, hK⟩
  | .goto l, d, hc, s, a, w, σ, K, H, hT, hd, hK => by
    simp only [compC, Option.some.injEq] at hc; subst hc
    exact wp_goto ⟨σ, s, H, hT, hd, hK⟩
  | .scope x, d, hc, s, a, w, σ, K, H, hT, hd, hK => by
    simp only [compC] at hc
    split at hc
    · rename_i hl
      exact scope_plain (fun l' => findLabel_not (by rw [hl]; simp)) (dwp_sound hΓ hm x d hc s a w σ K H hT hd hK)
    · rename_i l hl
      split at hc
      · rename_i d1 r h1 h2
        cases hc
        simp only [dwp] at hK
        obtain ⟨rest, hf⟩ := compT_find h2
        have hn : ∀ l', l' ≠ l → findLabel x l' = none := fun l' e => findLabel_not (by rw [hl]; simpa using e)
        have ne : outId l ≠ goId l := by unfold outId goId; omega
        -- what is behind the body, or behind the rest
        have hends : ∀ (X : St → Prop) (J : Act → World → Prop), (∀ s, X s → ∀ (a : Act) (w : World) (σ : Sg), Inv σ0 h0 w0 σ s.h s.ls w → TRel σ s.t a.tmps s.h.length s.ls.length → a.defers = [] → J a w) →
            ∀ (K3 : Ex → St → Prop), (∀ s, K3 .nrm s → ∃ s', Wk h0.length s s' ∧ K .nrm s') → (∀ s, K3 (.ext (goId l)) s → X s) → (∀ s j, j ≠ goId l → j ≠ outId l → K3 (.ext j) s → K (.ext j) s) → (∀ s, K3 .ret s → K .ret s) →
            ∀ e a w, QK σ0 h0 w0 K3 e a w → jumpTo l J (QK σ0 h0 w0 K) e a w := by
          intro X J hX K3 e1 e2 e3 e4 e a w hq
          by_cases he : ∃ j, e = .exit j
          · obtain ⟨j, rfl⟩ := he
            exact QK.exit (fun s hlt h => e3 s j (by unfold goId; omega) (by unfold outId; omega) h) hq
          unfold QK at hq
          cases e <;> simp only [exOf] at hq
          case exit j => exact absurd ⟨j, rfl⟩ he
          case normal =>
            obtain ⟨σ', s', i1, i2, i3, i4⟩ := hq
            obtain ⟨s2, W, k⟩ := e1 s' i4
            obtain ⟨σ2, j1, j2⟩ := W.sound i1 i2
            exact ⟨σ2, s2, j1, j2, i3, k⟩
          case goto l' =>
            obtain ⟨σ', s', i1, i2, i3, i4⟩ := hq
            simp only [jumpTo]
            split
            · rename_i e; subst e
              exact hX s' (e2 s' i4) a w σ' i1 i2 i3
            · rename_i e
              exact ⟨σ', s', i1, i2, i3, e3 s' _ (by unfold goId; omega) (by unfold goId outId; omega) i4⟩
          case ret =>
            obtain ⟨σ', s', i1, i2, i3, i4⟩ := hq
            exact ⟨σ', s', i1, i2, i3, e4 s' i4⟩
        have hround : ∀ (X : St → Prop) (s : St), X s → ((∀ s, (∃ s', Wk h0.length s s' ∧ X s') → X s)) → True := fun _ _ _ _ => trivial
        refine scope_of (J := fun a w => ScopeAt P x rest (QK σ0 h0 w0 K) a w) hf hn (fun _ _ h => h) (wp_mono (dwp_sound hΓ hm x d1 h1 s a w σ _ H hT hd hK) ?_)
        intro e a' w' hq
        refine hends (fun s => ∀ (a : Act) (w : World) (σ : Sg), Inv σ0 h0 w0 σ s.h s.ls w → TRel σ s.t a.tmps s.h.length s.ls.length → a.defers = [] → ScopeAt P x rest (QK σ0 h0 w0 K) a w) _ (fun s h => h) _ ?_ ?_ ?_ ?_ e a' w' hq
        · rintro s ⟨s', W, h⟩
          simp only [if_neg ne, if_true] at h
          exact ⟨s', W, h⟩
        · intro s h
          simp only [if_true] at h
          obtain ⟨s', W, h⟩ := h
          intro a w σ H hT hd
          obtain ⟨σ, H, hT⟩ := W.sound H hT
          refine h (fun s => ∀ (a : Act) (w : World) (σ : Sg), Inv σ0 h0 w0 σ s.h s.ls w → TRel σ s.t a.tmps s.h.length s.ls.length → a.defers = [] → ScopeAt P x rest (QK σ0 h0 w0 K) a w) ?_ a w σ H hT hd
          intro s hs a w σ H hT hd
          obtain ⟨s, hW, hs⟩ := hs
          obtain ⟨σ, H, hT⟩ := hW.sound H hT
          refine scopeAt_of (J := fun a w => ScopeAt P x rest (QK σ0 h0 w0 K) a w) hf hn (fun _ _ h => h) (wp_mono (rest_sound hΓ hm x l r h2 rest hf s a w σ _ H hT hd hs) ?_)
          intro e a' w' hq
          refine hends (fun s => ∀ (a : Act) (w : World) (σ : Sg), Inv σ0 h0 w0 σ s.h s.ls w → TRel σ s.t a.tmps s.h.length s.ls.length → a.defers = [] → ScopeAt P x rest (QK σ0 h0 w0 K) a w) _ (fun s h => h) _ ?_ ?_ ?_ ?_ e a' w' hq
          · rintro s ⟨s', W, h⟩
            simp only [if_neg ne, if_true] at h
            exact ⟨s', W, h⟩
          · intro s h
            simp only [if_true] at h
            exact h
          · intro s j j1 j2 h
            simp only [if_neg j1, if_neg j2] at h
            exact h
          · intro s h
            exact h
        · intro s j j1 j2 h
          simp only [if_neg j1, if_neg j2] at h
          exact h
        · intro s h
          exact h
      · cases hc
    · cases hc
  | .ret, d, hc, s, a, w, σ, K, H, hT, hd, hK => by
    simp only [compC, Option.some.injEq] at hc; subst hc
    exact wp_ret ⟨σ, s, H, hT, hd, hK⟩
  | .rangeFunc .., d, hc, _, _, _, _, _, _, _, _, _ => by simp [compC] at hc
  | .refuse _, d, hc, _, _, _, _, _, _, _, _, _ => by simp [compC] at hc
theorem rest_sound (hΓ : SndΓ P Γ) (hm : P.follows .mixedOrders = true) : ∀ (c : Code) (l : Nat) (d : DC), compT P l c = some d → ∀ rest, findLabel c l = some rest → ∀ (s : St) (a : Act) (w : World) (σ : Sg) (K : Ex → St → Prop),
    Inv σ0 h0 w0 σ s.h s.ls w → TRel σ s.t a.tmps s.h.length s.ls.length → a.defers = [] → dwp Γ h0.length d s K → rest.wp P (QK σ0 h0 w0 K) a w
  | .seq x y, l, d, hc, rest, hf, s, a, w, σ, K, H, hT, hd, hK => by
    simp only [compT] at hc
    simp only [findLabel] at hf
    split at hc
    · rename_i rx hx
      rw [hx] at hf
      simp only [Option.some.injEq] at hf
      subst hf
      split at hc
      · rename_i r d2 ht h2
        cases hc
        simp only [dwp] at hK
        refine wp_seq (wp_mono (rest_sound hΓ hm x l r ht rx hx s a w σ _ H hT hd hK) ?_)
        rintro e a' w' hq
        by_cases he : ∃ id, e = .exit id
        · obtain ⟨id, rfl⟩ := he
          refine QK.exit ?_ hq
          intro _ _ h; exact h
        unfold QK at hq
        cases e <;> simp only [exOf] at hq
        case exit id => exact absurd ⟨id, rfl⟩ he
        case normal =>
          obtain ⟨σ', s', i1, i2, i3, s2, iW, i4⟩ := hq
          obtain ⟨σ2, j1, j2⟩ := iW.sound i1 i2
          exact dwp_sound hΓ hm y d2 h2 s2 a' w' σ2 K j1 j2 i3 i4
        all_goals exact hq
      · cases hc
    · rename_i hx
      rw [hx] at hf
      exact rest_sound hΓ hm y l d hc rest hf s a w σ K H hT hd hK
  | .label l', l, d, hc, rest, hf, s, a, w, σ, K, H, hT, hd, hK => by
    simp only [compT] at hc
    simp only [findLabel] at hf
    split at hc
    · rename_i e
      cases hc
      rw [if_pos (by simpa using e)] at hf
      cases hf
      exact wp_skip ⟨σ, s, H, hT, hd, hK⟩
    · cases hc
  | .skip, _, _, h, _, _, _, _, _, _, _, _, _, _, _ => by simp [compT] at h
  | .region .., _, _, h, _, _, _, _, _, _, _, _, _, _, _ => by simp [compT] at h
  | .cond .., _, _, h, _, _, _, _, _, _, _, _, _, _, _ => by simp [compT] at h
  | .block .., _, _, h, _, _, _, _, _, _, _, _, _, _, _ => by simp [compT] at h
  | .loop .., _, _, h, _, _, _, _, _, _, _, _, _, _, _ => by simp [compT] at h
  | .rangeFunc .., _, _, h, _, _, _, _, _, _, _, _, _, _, _ => by simp [compT] at h
  | .exit .., _, _, h, _, _, _, _, _, _, _, _, _, _, _ => by simp [compT] at h
  | .scope .., _, _, h, _, _, _, _, _, _, _, _, _, _, _ => by simp [compT] at h
  | .goto .., _, _, h, _, _, _, _, _, _, _, _, _, _, _ => by simp [compT] at h
  | .ret, _, _, h, _, _, _, _, _, _, _, _, _, _, _ => by simp [compT] at h
  | .refuse .., _, _, h, _, _, _, _, _, _, _, _, _, _, _ => by simp [compT] at h
end

theorem Inv.refl {σ : Sg} {h : List Blk} {w : World} (H : Sim σ h [] w) : Inv σ h w σ h [] w := by
  refine ⟨H, ⟨Same.refl w, fun _ _ _ => rfl⟩, Nat.le_refl _, fun _ _ => rfl, fun r B hb hst => ?_, fun k hk hk' => by omega, fun k B0 B h1 h2 hd => ?_⟩
  · cases r with
    | g k => exact .inl ⟨k, B, rfl, hb, hst⟩
    | l k => simp [blk] at hb
  · rw [h1] at h2; cases h2; exact hd

/-! ### results -/
def runR (tmps : Array Value) : ResultVar → Sem Value
  | .tmp t => Pure.pure (tmps.getD t undef)
  | .cell ad t => do loadVar t (← asAddr (tmps.getD ad undef))

theorem rval_run {s : St} {σ : Sg} {a : Act} {w : World} (H : Sim σ s.h s.ls w) (hT : TRel σ s.t a.tmps s.h.length s.ls.length) {rv : ResultVar} {q : RV} {c : C} (hq : compR P [rv] = some [q]) (hc : rval s q = some c) (hk : c.known = true) :
    (runR a.tmps rv).run P w = .ok (c.tr σ) w ∧ c.val s.h.length s.ls.length = true := by
  have hat : ∀ i v, s.t.getD i (.tup []) = v → v ≠ .tup [] → v ≠ .s .u → a.tmps.getD i undef = v.tr σ ∧ v.val s.h.length s.ls.length = true := fun i v h hne hu => by
    have hlt : i < s.t.length := by
      rcases Nat.lt_or_ge i s.t.length with h' | h'
      · exact h'
      · rw [show s.t.getD i (.tup []) = .tup [] by simp [List.getD, List.getElem?_eq_none h']] at h; exact absurd h.symm hne
    have hi : s.t[i]? = some v := by rw [← h]; simp [List.getD, hlt]
    obtain ⟨h1, x, h2, h3⟩ := hT.at_ i v hi
    refine ⟨?_, h1⟩
    rw [Array.getD_eq_getD_getElem?, h2]
    exact h3.eq hu
  cases rv with
  | tmp t =>
    simp only [compR, Option.map_some, Option.some.injEq, List.cons.injEq, and_true] at hq
    subst hq
    simp only [rval] at hc
    split at hc
    · rename_i x hx
      cases hc
      have hu : (V.s x) ≠ .s .u := by intro e; cases e; simp [C.known] at hk
      have := hat t _ hx (by simp) hu
      exact ⟨by simp only [runR, Sem.run_pure, this.1]; rfl, this.2⟩
    · rename_i xs hx
      cases hc
      have := hat t _ hx (by simp) (by simp)
      exact ⟨by simp only [runR, Sem.run_pure, this.1]; rfl, this.2⟩
    · cases hc
  | cell ad T =>
    simp only [compR] at hq
    split at hq
    · rename_i n l hn hl
      simp only [Option.some.injEq, List.cons.injEq] at hq
      obtain ⟨rfl, _⟩ := hq
      simp only [rval] at hc
      split at hc
      · rename_i r o hx
        have hp := hat ad _ hx (by simp) (by simp)
        simp only [V.tr, S.tr] at hp
        split at hc
        · rename_i B hB
          split at hc
          · cases hc
          · rename_i hd
            split at hc
            · cases hs : B.cells[o]? with
              | none => simp [hs] at hc
              | some x =>
                simp only [hs, Option.map_some, Option.some.injEq] at hc
                subst hc
                have hu : x ≠ .u := by rintro rfl; simp [C.known] at hk
                have hcell := H.cell hB hd hs hu
                refine ⟨?_, vals_get (H.bval hB) hs⟩
                simp [runR, asAddr, hp.1, loadVar, run_isAgg_none w hn, hcell, C.tr]
            · split at hc
              · rename_i n hlen
                cases hc
                have := run_loadCells_sub (P := P) H hB hd hlen hk
                refine ⟨?_, vals_sub (H.bval hB)⟩
                simp [runR, asAddr, hp.1, loadVar, run_isAgg_some w hn, this, C.tr]
              · cases hc
        · cases hc
      · cases hc
    · cases hq

theorem rvals_run {s : St} {σ : Sg} {a : Act} {w : World} (H : Sim σ s.h s.ls w) (hT : TRel σ s.t a.tmps s.h.length s.ls.length) : ∀ {rvs : List ResultVar} {qs : List RV} {cs : List C}, compR P rvs = some qs → rvals s qs = some cs → cs.all C.known = true →
    (rvs.mapM (runR a.tmps)).run P w = .ok (cs.map (C.tr σ)) w ∧ cs.all (C.val s.h.length s.ls.length) = true
  | [], qs, cs, hq, hc, _ => by
    simp only [compR, Option.some.injEq] at hq; subst hq
    simp only [rvals, Option.some.injEq] at hc; subst hc
    exact ⟨by simp, rfl⟩
  | rv :: rvs, qs, cs, hq, hc, hk => by
    have hsplit : ∃ q l, qs = q :: l ∧ compR P [rv] = some [q] ∧ compR P rvs = some l := by
      cases rv with
      | tmp t =>
        simp only [compR] at hq
        cases h1 : compR P rvs with
        | none => simp [h1] at hq
        | some l => simp only [h1, Option.map_some, Option.some.injEq] at hq; exact ⟨_, l, hq.symm, by simp [compR], rfl⟩
      | cell ad T =>
        simp only [compR] at hq
        split at hq
        · rename_i n l h1 h2; cases hq; exact ⟨_, l, rfl, by simp [compR, h1], h2⟩
        · cases hq
    obtain ⟨q, l, rfl, h1, h2⟩ := hsplit
    simp only [rvals] at hc
    split at hc
    · rename_i c cs' hc1 hc2
      cases hc
      simp only [List.all_cons, Bool.and_eq_true] at hk
      obtain ⟨i1, i2⟩ := rval_run H hT h1 hc1 hk.1
      obtain ⟨j1, j2⟩ := rvals_run H hT h2 hc2 hk.2
      refine ⟨?_, by simp [i2, j2]⟩
      rw [List.mapM_cons]
      simp only [Sem.run_bind, Sem.run_pure, List.map_cons]
      rw [i1]
      simp only [Result.andThen_ok, j1]
    · cases hc

theorem result_tr (σ : Sg) (cs : List C) : (result cs).tr σ = (if h : (cs.map (C.tr σ)).toArray.size = 1 then (cs.map (C.tr σ)).toArray[0] else .tuple (cs.map (C.tr σ)).toArray) := by
  match cs with
  | [] => simp [result, V.tr]
  | [c] => simp [result]; cases c <;> rfl
  | c :: d :: r => simp [result, V.tr]

theorem result_val {n m : Nat} {cs : List C} (h : cs.all (C.val n m) = true) : (result cs).val n m = true := by
  match cs with
  | [] => rfl
  | [c] => simp only [List.all_cons, List.all_nil, Bool.and_true] at h; cases c <;> exact h
  | c :: d :: r => exact h

theorem result_known {cs : List C} (h : (result cs).known = true) : cs.all C.known = true := by
  match cs with
  | [] => rfl
  | [c] =>
    simp only [List.all_cons, List.all_nil, Bool.and_true]
    cases c with
    | s x => cases x <;> first | rfl | exact h
    | agg xs => exact h
  | c :: d :: r => exact h

theorem results_run {fn : Func} {s : St} {σ : Sg} {a : Act} {w : World} {qs : List RV} {cs : List C} (H : Sim σ s.h s.ls w) (hT : TRel σ s.t a.tmps s.h.length s.ls.length) (hq : compR P fn.results.toList = some qs) (hc : rvals s qs = some cs) (hk : (result cs).known = true) :
    (results fn a.tmps).run P w = .ok ((result cs).tr σ) w ∧ (result cs).val s.h.length s.ls.length = true := by
  obtain ⟨h1, h2⟩ := rvals_run H hT hq hc (result_known hk)
  refine ⟨?_, result_val h2⟩
  have hres : results fn a.tmps = (do let vs ← fn.results.mapM (runR a.tmps); Pure.pure (if h : vs.size = 1 then vs[0] else .tuple vs)) := by
    unfold results
    congr 1
  have harr : (fn.results.mapM (runR a.tmps)).run P w = .ok (cs.map (C.tr σ)).toArray w := by
    rw [Array.mapM_eq_mapM_toList]
    simp only [Sem.run_map, h1, Result.andThen_ok]
  rw [hres]
  simp only [Sem.run_bind, harr, Result.andThen_ok, Sem.run_pure, result_tr]

/-- The function's own blocks that outlive it. -/
def keptS (σ : Sg) (n : Nat) (keep : List Nat) : Sg := fun r => match r with
  | .g k => if k < n then σ (.g k) else σ (.l (keep.getD (k - n) 0))
  | .l k => σ (.l k)

theorem idxOf_get {keep : List Nat} {k : Nat} (h : keep.contains k = true) : keep.idxOf k < keep.length ∧ keep[keep.idxOf k]? = some k := by
  have hm : k ∈ keep := by simpa using h
  have hl := List.idxOf_lt_length_iff.2 hm
  exact ⟨hl, by rw [List.getElem?_eq_getElem hl, List.getElem_idxOf hl]⟩

theorem getAll_get {ls : List Blk} : ∀ {keep : List Nat} {l : List Blk}, getAll ls keep = some l → l.length = keep.length ∧ ∀ (j : Nat) (B : Blk), l[j]? = some B → ∃ k, keep[j]? = some k ∧ ls[k]? = some B
  | [], l, h => by simp only [getAll, Option.some.injEq] at h; subst h; exact ⟨rfl, fun j B hb => by simp at hb⟩
  | k :: ks, l, h => by
    simp only [getAll] at h
    split at h
    · rename_i B l' h1 h2
      cases h
      obtain ⟨i1, i2⟩ := getAll_get h2
      refine ⟨by simp [i1], fun j X hX => ?_⟩
      cases j with
      | zero => simp only [List.getElem?_cons_zero, Option.some.injEq] at hX; subst hX; exact ⟨k, rfl, h1⟩
      | succ j => simp only [List.getElem?_cons_succ] at hX ⊢; exact i2 j X hX
    · cases h

/-- Valid, and naming none of the function's own blocks but those that are kept. -/
def KeptVal (keep : List Nat) (n m : Nat) (r : R) : Prop := r.val n m = true ∧ r.kept keep = true

theorem prom_place {σ : Sg} {n m : Nat} {keep : List Nat} {r : R} (hv : r.val n m = true) (hk : r.kept keep = true) : keptS σ n keep (r.prom n keep) = σ r ∧ (r.prom n keep).val (n + keep.length) 0 = true := by
  cases r with
  | g k => simp only [R.val, decide_eq_true_eq] at hv; exact ⟨by simp [R.prom, keptS, hv], by simp only [R.prom, R.val, decide_eq_true_eq]; omega⟩
  | l k =>
    obtain ⟨h1, h2⟩ := idxOf_get (by simpa [R.kept] using hk)
    refine ⟨?_, by simp only [R.prom, R.val, decide_eq_true_eq]; omega⟩
    simp only [R.prom, keptS, if_neg (by omega : ¬ n + keep.idxOf k < n)]
    congr 2
    rw [show n + keep.idxOf k - n = keep.idxOf k by omega, List.getD, h2]; rfl

theorem S.prom_tr {σ : Sg} {n m : Nat} {keep : List Nat} {s : S} (hv : s.val n m = true) (hk : s.kept keep = true) : (s.ren (R.prom n keep)).tr (keptS σ n keep) = s.tr σ ∧ (s.ren (R.prom n keep)).val (n + keep.length) 0 = true := by
  cases s with
  | p r o => have := prom_place (σ := σ) hv hk; exact ⟨by simp [S.ren, S.tr, adr, this.1], this.2⟩
  | sl r o a c => have := prom_place (σ := σ) hv hk; exact ⟨by simp [S.ren, S.tr, adr, this.1], this.2⟩
  | fn f cs =>
    simp only [S.val, S.kept, List.all_eq_true] at hv hk
    refine ⟨?_, ?_⟩
    · simp only [S.ren, S.tr, List.map_map]
      congr 2
      refine List.map_congr_left fun x hx => ?_
      simp only [Function.comp, adr, (prom_place (σ := σ) (hv x hx) (hk x hx)).1]
    · simp only [S.ren, S.val, List.all_map, List.all_eq_true]
      exact fun x hx => (prom_place (σ := σ) (hv x hx) (hk x hx)).2
  | _ => exact ⟨rfl, rfl⟩

theorem trs_prom {σ : Sg} {n m : Nat} {keep : List Nat} {xs : List S} (hv : vals n m xs = true) (hk : xs.all (S.kept keep) = true) : trs (keptS σ n keep) (xs.map (S.ren (R.prom n keep))) = trs σ xs ∧ vals (n + keep.length) 0 (xs.map (S.ren (R.prom n keep))) = true := by
  simp only [vals, List.all_eq_true] at hv hk
  refine ⟨?_, ?_⟩
  · simp only [trs, List.map_map]; congr 1
    exact List.map_congr_left fun x hx => (S.prom_tr (hv x hx) (hk x hx)).1
  · simp only [vals, List.all_map, List.all_eq_true]
    exact fun x hx => (S.prom_tr (σ := σ) (hv x hx) (hk x hx)).2

theorem C.prom_tr {σ : Sg} {n m : Nat} {keep : List Nat} {c : C} (hv : c.val n m = true) (hk : c.kept keep = true) : (c.ren (R.prom n keep)).tr (keptS σ n keep) = c.tr σ ∧ (c.ren (R.prom n keep)).val (n + keep.length) 0 = true := by
  cases c with
  | s x => exact S.prom_tr hv hk
  | agg xs => have := trs_prom (σ := σ) hv hk; exact ⟨by simp [C.ren, C.tr, this.1], this.2⟩

theorem V.prom_tr {σ : Sg} {n m : Nat} {keep : List Nat} {v : V} (hv : v.val n m = true) (hk : v.kept keep = true) : (v.ren (R.prom n keep)).tr (keptS σ n keep) = v.tr σ ∧ (v.ren (R.prom n keep)).val (n + keep.length) 0 = true := by
  cases v with
  | s x => exact S.prom_tr hv hk
  | agg xs => have := trs_prom (σ := σ) hv hk; exact ⟨by simp [V.ren, V.tr, this.1], this.2⟩
  | tup cs =>
    simp only [V.val, V.kept, List.all_eq_true] at hv hk
    refine ⟨?_, ?_⟩
    · simp only [V.ren, V.tr, List.map_map]; congr 2
      exact List.map_congr_left fun x hx => (C.prom_tr (hv x hx) (hk x hx)).1
    · simp only [V.ren, V.val, List.all_map, List.all_eq_true]
      exact fun x hx => (C.prom_tr (σ := σ) (hv x hx) (hk x hx)).2

/-- Some of the function's own blocks are made shared. -/
theorem Inv.promote {σ : Sg} {h ls : List Blk} {w : World} (H : Inv σ0 h0 w0 σ h ls w) {keep : List Nat} {l : List Blk} (hnd : keep.Nodup) (hl : getAll ls keep = some l) (hall : l.all (fun B => decide (B.st = .rw) && B.cells.all (S.kept keep)) = true) : Inv σ0 h0 w0 (keptS σ h.length keep) (h ++ l.map (Blk.ren (R.prom h.length keep))) [] w := by
  obtain ⟨hlen, hget⟩ := getAll_get hl
  have hkept : l.all (fun B => B.cells.all (S.kept keep)) = true := by
    simp only [List.all_eq_true, Bool.and_eq_true] at hall ⊢; exact fun B hB => (hall B hB).2
  have hown : ∀ k B, B ∈ l → ls[k]? = some B → w0.heap.size ≤ (σ (.l k)).1 := fun k B hB hk => by
    have hrw : B.st = .rw := by
      rw [List.all_eq_true] at hall
      have := hall B hB
      simp only [Bool.and_eq_true, decide_eq_true_eq] at this; exact this.1
    rcases H.mine (.l k) B hk hrw with ⟨_, _, e, _⟩ | h2
    · cases e
    · exact h2
  have hsz : (h ++ l.map (Blk.ren (R.prom h.length keep))).length = h.length + keep.length := by simp [hlen]
  have hcase : ∀ k B, (h ++ l.map (Blk.ren (R.prom h.length keep)))[k]? = some B → (k < h.length ∧ h[k]? = some B) ∨ (h.length ≤ k ∧ ∃ B0 j, l[k - h.length]? = some B0 ∧ keep[k - h.length]? = some j ∧ ls[j]? = some B0 ∧ B = B0.ren (R.prom h.length keep)) := fun k B hb => by
    by_cases hk : k < h.length
    · rw [List.getElem?_append_left hk] at hb; exact .inl ⟨hk, hb⟩
    · rw [List.getElem?_append_right (by omega), List.getElem?_map] at hb
      cases hB : l[k - h.length]? with
      | none => simp [hB] at hb
      | some B0 =>
        simp only [hB, Option.map_some, Option.some.injEq] at hb
        obtain ⟨j, hj1, hj2⟩ := hget _ _ hB
        exact .inr ⟨by omega, B0, j, rfl, hj1, hj2, hb.symm⟩
  have hplace : ∀ k j, h.length ≤ k → keep[k - h.length]? = some j → keptS σ h.length keep (.g k) = σ (.l j) := fun k j hk hj => by
    simp only [keptS, if_neg (by omega : ¬ k < h.length), List.getD, hj]; rfl
  have hgl : ∀ k, k < h.length → keptS σ h.length keep (.g k) = σ (.g k) := fun k hk => by simp [keptS, hk]
  refine ⟨⟨fun r B hb => ?_, fun r r' B B' hb hb' hne hst hd => ?_, fun B hB => ?_, fun B hB => by cases hB⟩, H.kept, by rw [hsz]; have := H.len; omega, fun k hk => ?_, fun r B hb hst => ?_, fun k hk hk' => ?_, fun k B0 B hk0 hk hd => ?_⟩
  · cases r with
    | l k => simp [blk] at hb
    | g k =>
      rcases hcase k B hb with ⟨hk, hb2⟩ | ⟨hk, B0, j, h1, h2, h3, rfl⟩
      · have hv := H.sim.gval B (List.mem_of_getElem? hb2)
        refine (H.sim.ok (.g k) B hb2).move (n := h.length) (m := 0) (hgl k hk) (fun r hr => ?_) hv (Nat.le_refl _) (fun _ => rfl)
        cases r with
        | g i => exact hgl i (by simpa [R.val] using hr)
        | l i => simp [R.val] at hr
      · refine (H.sim.ok (.l j) B0 h3).ren (hplace k j hk h2) (fun s hs => ?_)
        have hv := H.sim.lval B0 (List.mem_of_getElem? h3)
        simp only [vals, List.all_eq_true] at hv hkept
        exact (S.prom_tr (hv s hs) (hkept B0 (List.mem_of_getElem? h1) s hs)).1
  · cases r with
    | l k => simp [blk] at hb
    | g k =>
      cases r' with
      | l k' => simp [blk] at hb'
      | g k' =>
        have hkk : k ≠ k' := fun e => hne (by rw [e])
        rcases hcase k B hb with ⟨hk, hb2⟩ | ⟨hk, B0, j, h1, h2, h3, rfl⟩ <;> rcases hcase k' B' hb' with ⟨hk', hb2'⟩ | ⟨hk', B0', j', h1', h2', h3', rfl⟩
        · rw [hgl k hk, hgl k' hk']; exact H.sim.sep (.g k) (.g k') B B' hb2 hb2' hne hst hd
        · rw [hgl k hk, hplace k' j' hk' h2']; exact H.sim.sep (.g k) (.l j') B B0' hb2 h3' (by simp) hst hd
        · rw [hplace k j hk h2, hgl k' hk']; exact H.sim.sep (.l j) (.g k') B0 B' h3 hb2' (by simp) hst hd
        · rw [hplace k j hk h2, hplace k' j' hk' h2']
          refine H.sim.sep (.l j) (.l j') B0 B0' h3 h3' ?_ hst hd
          intro e
          cases e
          have a1 := List.getElem?_eq_some_iff.1 h2
          have a2 := List.getElem?_eq_some_iff.1 h2'
          obtain ⟨l1, e1⟩ := a1
          obtain ⟨l2, e2⟩ := a2
          have hinj : k - h.length = k' - h.length := by
            rcases Nat.lt_trichotomy (k - h.length) (k' - h.length) with hlt | heq | hgt
            · exact absurd (e1.trans e2.symm) (List.pairwise_iff_getElem.1 hnd _ _ l1 l2 hlt)
            · exact heq
            · exact absurd (e2.trans e1.symm) (List.pairwise_iff_getElem.1 hnd _ _ l2 l1 hgt)
          omega
  · rw [hsz]
    rcases List.mem_append.1 hB with h1 | h1
    · exact vals_mono (by omega) (Nat.le_refl _) (H.sim.gval B h1)
    · obtain ⟨B0, hB0, rfl⟩ := List.mem_map.1 h1
      obtain ⟨j, hj⟩ := List.mem_iff_getElem?.1 hB0
      obtain ⟨k, _, hk⟩ := hget j B0 hj
      have hv := H.sim.lval B0 (List.mem_of_getElem? hk)
      simp only [List.all_eq_true] at hkept
      exact (trs_prom (σ := σ) hv (by simp only [List.all_eq_true]; exact hkept B0 hB0)).2
  · rw [hgl k (by have := H.len; omega)]; exact H.old k hk
  · cases r with
    | l k => simp [blk] at hb
    | g k =>
      rcases hcase k B hb with ⟨hk, hb2⟩ | ⟨hk, B0, j, h1, h2, h3, rfl⟩
      · rw [hgl k hk]; exact H.mine (.g k) B hb2 hst
      · right; rw [hplace k j hk h2]; exact hown j B0 (List.mem_of_getElem? h1) h3
  · by_cases hkh : k < h.length
    · rw [hgl k hkh]; exact H.new k hk hkh
    · rw [hsz] at hk'
      obtain ⟨j, hj⟩ : ∃ j, keep[k - h.length]? = some j := ⟨_, List.getElem?_eq_getElem (by omega)⟩
      rw [hplace k j (by omega) hj]
      obtain ⟨B0, hB0⟩ : ∃ B0, l[k - h.length]? = some B0 := ⟨_, List.getElem?_eq_getElem (by rw [hlen]; omega)⟩
      obtain ⟨j', hj1, hj2⟩ := hget _ _ hB0
      rw [hj] at hj1; cases hj1
      exact hown j B0 (List.mem_of_getElem? hB0) hj2
  · have hk0l : k < h0.length := (List.getElem?_eq_some_iff.1 hk0).1
    rw [List.getElem?_append_left (by have := H.len; omega)] at hk
    exact H.live k B0 B hk0 hk hd

theorem S.known_ren' {ρ : R → R} {s : S} (h : V.known (.s s) = true) : V.known (.s (s.ren ρ)) = true := by
  cases s <;> first | rfl | cases h

theorem Wk.temps {n0 : Nat} {s s' : St} (W : Wk n0 s s') : s'.t.length = s.t.length ∧ ∀ (i : Nat) (v' : V), s'.t[i]? = some v' → v'.known = true → ∃ v, s.t[i]? = some v ∧ v.known = true := by
  induction W with
  | refl => exact ⟨rfl, fun i v' h hk => ⟨v', h, hk⟩⟩
  | by_ ρ W =>
    refine ⟨W.size, fun i v' h hk => ?_⟩
    rcases (W.temps i v' h).2 with rfl | e
    · simp [V.known] at hk
    · exact ⟨_, e, by rw [V.known_ren]; exact hk⟩
  | less ht =>
    refine ⟨(leT_get ht).1, fun i v' h hk => ?_⟩
    rcases (leT_get ht).2 i v' h with rfl | e
    · simp [V.known] at hk
    · exact ⟨_, e, hk⟩
  | cut junk ht hb hl =>
    refine ⟨(leT_get ht).1, fun i v' h hk => ?_⟩
    rcases (leT_get ht).2 i v' h with rfl | e
    · simp [V.known] at hk
    · exact ⟨_, e, hk⟩
  | trans _ _ ih1 ih2 =>
    refine ⟨ih2.1.trans ih1.1, fun i v' h hk => ?_⟩
    obtain ⟨v, e, hv⟩ := ih2.2 i v' h hk
    exact ih1.2 i v e hv

theorem Wk.known {n0 : Nat} {v0 v : V} {ls h ls' h' : List Blk} (W : Wk n0 ⟨[v0], ls, h⟩ ⟨[v], ls', h'⟩) (hk : v.known = true) : v0.known = true := by
  obtain ⟨v1, e, hv⟩ := W.temps.2 0 v rfl hk
  simp only [List.getElem?_cons_zero, Option.some.injEq] at e
  rw [e]; exact hv

/-- A function meets the spec that its code has. -/
theorem fwp_sound (hΓ : SndΓ P Γ) (hm : P.follows .mixedOrders = true) {f : FuncId} {fn : Func} {F : DF} (hf : P.funcs[f]? = some fn) (hF : compF P fn = some F) : Snd P f (fwp Γ F) := by
  intro σ h w args K hS hav hak hK
  unfold compF at hF
  split at hF
  · rename_i c hb
    split at hF
    · rename_i d r hd hr
      cases hF
      obtain ⟨Kf, hKf, s0, hW0, hK⟩ := hK
      have hT0 : TRel σ (args ++ List.replicate (fn.ntmps - args.length) (.tup [])) ((args.map (V.tr σ)).toArray ++ Array.replicate (fn.ntmps - (args.map (V.tr σ)).toArray.size) undef) h.length 0 := by
        refine ⟨by simp, fun i v hi => ?_⟩
        by_cases hlt : i < args.length
        · rw [List.getElem?_append_left hlt] at hi
          simp only [List.all_eq_true] at hav
          refine ⟨hav v (List.mem_of_getElem? hi), v.tr σ, ?_, .inr rfl⟩
          rw [Array.getElem?_append_left (by simpa using hlt)]
          simp [hi]
        · rw [List.getElem?_append_right (by omega), List.getElem?_replicate] at hi
          split at hi
          · rename_i hlt2
            cases hi
            refine ⟨rfl, undef, ?_, .inr rfl⟩
            rw [Array.getElem?_append_right (by simp; omega)]
            simp [hlt2]
          · cases hi
      obtain ⟨σ1, H1, hT1⟩ := hW0.sound (σ0 := σ) (h0 := h) (w0 := w) (Inv.refl hS) hT0
      refine calls_of_wp hf hb (wp_mono (dwp_sound (σ0 := σ) (h0 := h) (w0 := w) hΓ hm c d hd s0 _ w σ1 _ H1 (by simpa using hT1) rfl hK) ?_)
      · rintro e a w' hq
        by_cases he : ∃ id, e = .exit id
        · obtain ⟨id, rfl⟩ := he
          exact (QK.noexit (fun s h => (show False from hKf _ _ h)) hq).elim
        unfold QK at hq
        have hmain : ∀ (σ' : Sg) (s : St), Inv σ h w σ' s.h s.ls w' → TRel σ' s.t a.tmps s.h.length s.ls.length → a.defers = [] → (match rvals s r with | some l => ∃ v ls h', Wk h.length ⟨[result l], s.ls, s.h⟩ ⟨[v], ls, h'⟩ ∧ leave v ls h' K | none => False) →
            a.defers = [] ∧ ∃ v, (results fn a.tmps).run P w' = .ok v w' ∧ ∃ (v' : V) (h' : List Blk) (σ2 : Sg), Ending.returned v = .returned (v'.tr σ2) ∧ v'.known = true ∧ v'.val h'.length 0 = true ∧ Inv σ h w σ2 h' [] w' ∧ K v' h' := fun σ' s H hT hdf hl => by
          refine ⟨hdf, ?_⟩
          split at hl
          · rename_i l hrv
            obtain ⟨rv, ls, h', hW, hl⟩ := hl
            unfold leave at hl
            obtain ⟨hkn, hl⟩ := hl
            have hkn0 : (result l).known = true := hW.known hkn
            obtain ⟨h1, h2⟩ := results_run H.sim hT hr hrv hkn0
            refine ⟨_, h1, ?_⟩
            have hT1 : TRel σ' [result l] #[(result l).tr σ'] s.h.length s.ls.length := ⟨rfl, fun i v hi => by
              cases i with
              | zero => simp only [List.getElem?_cons_zero, Option.some.injEq] at hi; subst hi; exact ⟨h2, _, rfl, .inr rfl⟩
              | succ i => simp at hi⟩
            obtain ⟨σ', H, hT2⟩ := hW.sound (s := ⟨[result l], s.ls, s.h⟩) H hT1
            obtain ⟨h2, x, hx, hI⟩ := hT2.at_ 0 rv rfl
            simp only [List.getElem?_toArray, List.getElem?_cons_zero, Option.some.injEq] at hx
            subst hx
            have hI := hI.eq (by rintro rfl; simp [V.known] at hkn)
            rw [hI]
            cases hno : rv.noL
            · rw [hno] at hl
              simp only [bcase, Bool.false_eq_true, if_false] at hl
              obtain ⟨keep, hnd, hkv, hl⟩ := hl
              split at hl
              · rename_i bl hbl
                obtain ⟨hall, hl⟩ := hl
                have hp := V.prom_tr (σ := σ') (keep := keep) h2 hkv
                have H2 := H.promote hnd hbl hall
                have hlen := (getAll_get hbl).1
                exact ⟨_, _, _, by rw [hp.1], by rw [V.known_ren]; exact hkn, by simp only [List.length_append, List.length_map, hlen]; exact hp.2, H2, hl⟩
              · exact hl.elim
            · rw [hno] at hl
              simp only [bcase, if_true] at hl
              refine ⟨_, _, σ', rfl, hkn, V.val_noL h2 hno, ⟨H.sim.glob, H.kept, H.len, H.old, fun r B hb hst => ?_, H.new, H.live⟩, hl⟩
              cases r with
              | g k => exact H.mine (.g k) B hb hst
              | l k => simp [blk] at hb
          · exact hl.elim
        cases e <;> simp only [exOf] at hq
        case normal => obtain ⟨σ', s, i1, i2, i3, i4⟩ := hq; exact hmain σ' s i1 i2 i3 (hKf _ _ i4)
        case ret => obtain ⟨σ', s, i1, i2, i3, i4⟩ := hq; exact hmain σ' s i1 i2 i3 (hKf _ _ i4)
        case goto l => obtain ⟨σ', s, i1, i2, i3, i4⟩ := hq; exact (show False from hKf _ _ i4).elim
        case exit id => exact absurd ⟨id, rfl⟩ he
    · cases hF
  · cases hF

/-- A spec that asks for no less. -/
theorem Snd.weaken {f : FuncId} {S S' : FSpec} (h : Snd P f S) (hs : ∀ args h K, clean h.length h = true → S' args h K → S args h K) : Snd P f S' :=
  fun σ h' w args K hS hav hak hK => h σ h' w args K hS hav hak (hs args h' K (by simp only [clean, List.all_eq_true]; exact hS.gval) hK)

end
end Go.D

/- A machine that runs the small code on what is known, up to what must be decided: by reckoning alone. -/
namespace Go.D
set_option linter.all false

inductive Res where
  | ok (v : V) (ls h : List Blk)
  | ob (p : Prop) (r : Res)
  | br (b : Bool) (r1 r2 : Res)
  | call (f : FuncId) (args : List V)
  | app (t : List V) (n : Nat) (v : Nat → V) (ls : Nat → List Blk)
  | all (n : Nat) (f : Nat → Res)
  | bad

def Res.holds (Γ : FuncId → FSpec) (t : List V) (ls h : List Blk) (K : List V → V → List Blk → List Blk → Prop) : Res → Prop
  | .ok v ls h => K t v ls h
  | .ob p r => p ∧ r.holds Γ t ls h K
  | .br b r1 r2 => (b = true → r1.holds Γ t ls h K) ∧ (b = false → r2.holds Γ t ls h K)
  | .call f args => callK Γ f args ls h fun v ls h => K t v ls h
  | .app t' n v ls' => ∀ c, n ≤ c → K t' (v c) (ls' c) h
  | .all n f => ∀ c, n ≤ c → (f c).holds Γ t ls h K
  | .bad => False

def bin1R (op : BinOp) (x y : S) (k : S → Res) : Res :=
  match x, y with
  | .i q a, .i q' b =>
    match op with
    | .shl => .ob (0 ≤ b) (k (.i q (q.wrap (a * 2 ^ min b.toNat q.bits))))
    | .shr => .ob (0 ≤ b) (k (.i q (a / 2 ^ min b.toNat q.bits)))
    | .add => if q = q' then k (.i q (q.wrap (a + b))) else .bad
    | .sub => if q = q' then k (.i q (q.wrap (a - b))) else .bad
    | .mul => if q = q' then k (.i q (q.wrap (a * b))) else .bad
    | .quo => if q = q' then .ob (b ≠ 0) (k (.i q (q.wrap (a.tdiv b)))) else .bad
    | .rem => if q = q' then .ob (b ≠ 0) (k (.i q (a.tmod b))) else .bad
    | .and => if q = q' then k (.i q (bits .and q a b)) else .bad
    | .or => if q = q' then k (.i q (bits .or q a b)) else .bad
    | .xor => if q = q' then k (.i q (bits .xor q a b)) else .bad
    | .andNot => if q = q' then k (.i q (bits .andNot q a b)) else .bad
    | .eql => if q = q' then k (.b (a == b)) else .bad
    | .neq => if q = q' then k (.b (a != b)) else .bad
    | .lss => if q = q' then k (.b (decide (a < b))) else .bad
    | .leq => if q = q' then k (.b (decide (a ≤ b))) else .bad
    | .gtr => if q = q' then k (.b (decide (a > b))) else .bad
    | .geq => if q = q' then k (.b (decide (a ≥ b))) else .bad
  | _, _ => .bad

def un1R (op : UnOp) (x : S) (k : S → Res) : Res :=
  match op, x with
  | .not, .b a => k (.b (!a))
  | .neg, .i q a => k (.i q (q.wrap (0 - a)))
  | .xor, .i q a => k (.i q (bits .xor q (if q.signed then -1 else q.max) a))
  | _, _ => .bad

def notDead : BK → Bool
  | .dead => false
  | _ => true
def isRw : BK → Bool
  | .rw => true
  | _ => false

def slcR (ls h : List Blk) (esize : Nat) (r : R) (o len cap : Nat) (t : List V) (lo hi : Option Opd) : Res :=
  match bnd 0 t lo, bnd len t hi with
  | some l, some u => .ob (0 ≤ l ∧ l ≤ u ∧ u ≤ cap) (.ok (.s (.sl r (if cap = l.toNat then o else o + l.toNat * esize) (u.toNat - l.toNat) (cap - l.toNat))) ls h)
  | _, _ => .bad

/-- A choice between two values. -/
def pickR (q : Bool) (ls h : List Blk) : V → V → Res
  | .s (.b x), .s (.b y) => .ok (.s (.b (cond q x y))) ls h
  | .tup [], .s (.b y) => .br q (.ok (.tup []) ls h) (.ok (.s (.b y)) ls h)
  | .s (.b x), .tup [] => .br q (.ok (.s (.b x)) ls h) (.ok (.tup []) ls h)
  | x, y => .br q (.ok x ls h) (.ok y ls h)

/-- A slice's length. -/
def lenR : V → List Blk → List Blk → Res
  | .s (.sl _ _ n _), ls, h => .ok (.s (.i .i64 n)) ls h
  | .s .ns, ls, h => .ok (.s (.i .i64 0)) ls h
  | .s (.es _ _), ls, h => .ok (.s (.i .i64 0)) ls h
  | _, _, _ => .bad

/-- One instruction. -/
def istep (op : I) (t : List V) (ls h : List Blk) : Res :=
  match op with
  | .mv x => .ok (ev t x) ls h
  | .pick c a b => match ev t c with
    | .s (.b q) => pickR q ls h (ev t a) (ev t b)
    | _ => .bad
  | .new z => .ok (.s (.p (.l ls.length) 0)) (ls ++ [⟨.rw, z, z.length⟩]) h
  | .box x => .ob ((ev t x).plain = true) (.ok (.s (.p (.l ls.length) 0)) (ls ++ [⟨.rw, (ev t x).cells, (ev t x).cells.length⟩]) h)
  | .build z parts => match fillP t parts z with
    | some z' => .ok (.agg z') ls h
    | none => .bad
  | .bsl n z parts => match fillP t parts z with
    | some z' => .ok (.s (.sl (.l ls.length) 0 n n)) (ls ++ [⟨.rw, z', z'.length⟩]) h
    | none => .bad
  | .ld a n => match ev t a with
    | .s (.p r o) => match blk h ls r with
      | some B => match n with
        | none => match B.cells[o]? with
          | some s => .ob (B.st ≠ .dead ∧ V.known (.s s) = true) (.ok (.s s) ls h)
          | none => .bad
        | some n => .ob (B.st ≠ .dead ∧ o + n ≤ B.cells.length ∧ known (sub B.cells o n) = true) (.ok (.agg (sub B.cells o n)) ls h)
      | none => .bad
    | _ => .bad
  | .st a x n => match ev t a with
    | .s (.p r o) => match blk h ls r with
      | some B => .ob (B.st = .rw ∧ (ev t x).plain = true ∧ (ev t x).cells.length = n ∧ o + n ≤ B.cells.length ∧ (ev t x).cells.all (r.takes h.length ls.length) = true)
          (.ok (.tup []) (setL ls r { B with cells := put B.cells o (ev t x).cells }) (setH h r { B with cells := put B.cells o (ev t x).cells }))
      | none => .bad
    | _ => .bad
  | .nil x => match ev t x with
    | .s (.p r o) => .ok (.s (.p r o)) ls h
    | .s (.fn f cs) => .ok (.s (.fn f cs)) ls h
    | _ => .bad
  | .bin op x y => match ev t x, ev t y with
    | .s a, .s b => bin1R op a b fun s => .ok (.s s) ls h
    | _, _ => .bad
  | .eqb neg x y => match ev t x, ev t y with
    | .s (.b a), .s (.b b) => .ok (.s (.b (if neg then !(a == b) else a == b))) ls h
    | _, _ => .bad
  | .eqa neg ks x y => match ev t x, ev t y with
    | .agg xs, .agg ys => .ob (cmpS ks xs ys = true) (.ok (.s (.b (if neg then !eqS xs ys else eqS xs ys))) ls h)
    | _, _ => .bad
  | .eqn isSl neg x => match ev t x with
    | .s a => match isNil isSl a with
      | some q => .ok (.s (.b (if neg then !q else q))) ls h
      | none => .bad
    | _ => .bad
  | .un op x => match ev t x with
    | .s a => un1R op a fun s => .ok (.s s) ls h
    | _ => .bad
  | .conv k x => match ev t x with
    | .s (.i _ n) => .ok (.s (.i k (k.wrap n))) ls h
    | _ => .bad
  | .mkf f caps => match capsOf t caps with
    | some cs => .ok (.s (.fn f cs)) ls h
    | none => .bad
  | .mks esize bytes z x y => match ev t x, ev t y with
    | .s (.i _ n), .s (.i _ c) => .ob (0 ≤ n ∧ n ≤ c ∧ c ≤ 2 ^ 40 ∧ bytes * c ≤ 2 ^ 48 ∧ z.length = esize)
        (.ok (.s (.sl (.l ls.length) 0 n.toNat c.toNat)) (ls ++ [⟨.rw, zeros z c.toNat, (zeros z c.toNat).length⟩]) h)
    | _, _ => .bad
  | .slc arr esize x lo hi =>
    match arr, ev t x with
    | some n, .s (.p r o) => slcR ls h esize r o n n t lo hi
    | none, .s (.sl r o n c) => slcR ls h esize r o n c t lo hi
    | none, .s .ns => match bnd 0 t lo, bnd 0 t hi with
      | some l, some u => .ob (l = 0 ∧ u = 0) (.ok (.s .ns) ls h)
      | _, _ => .bad
    | _, _ => .bad
  | .fa x off => match ev t x with
    | .s (.p r o) => .ok (.s (.p r (o + off))) ls h
    | _ => .bad
  | .fld x off n => match ev t x with
    | .agg xs => match n with
      | none => match xs[off]? with
        | some s => .ok (.s s) ls h
        | none => .bad
      | some n => .ob (off + n ≤ xs.length) (.ok (.agg (sub xs off n)) ls h)
    | _ => .bad
  | .ia arr esize x i => match ev t i with
    | .s (.i _ i) => match arr, ev t x with
      | some n, .s (.p r o) => .ob (0 ≤ i ∧ i < n) (.ok (.s (.p r (o + i.toNat * esize))) ls h)
      | none, .s (.sl r o n _) => .ob (0 ≤ i ∧ i < n) (.ok (.s (.p r (o + i.toNat * esize))) ls h)
      | _, _ => .bad
    | _ => .bad
  | .ix len esize n x i => match ev t x, ev t i with
    | .agg xs, .s (.i _ i) => match n with
      | none => match xs[i.toNat * esize]? with
        | some s => .ob (0 ≤ i ∧ i < len) (.ok (.s s) ls h)
        | none => .bad
      | some n => .ob (0 ≤ i ∧ i < len ∧ i.toNat * esize + n ≤ xs.length) (.ok (.agg (sub xs (i.toNat * esize) n)) ls h)
    | _, _ => .bad
  | .ext x j => match ev t x with
    | .tup cs => match cs[j]? with
      | some c => .ok c.v ls h
      | none => .bad
    | _ => .bad
  | .call f args => .call f (args.map (ev t))
  | .callv f args => match ev t f with
    | .s (.fn g cs) => .call g (args.map (ev t) ++ cs.map fun x => .s (.p x.1 x.2))
    | _ => .bad
  | .len x => lenR (ev t x) ls h
  | .app esize bytes x y => match ev t x, ev t y with
    | .s b, .s y => match shows ls h esize y with
      | some (n, new) => match b with
        | .ns => .ob (known new = true ∧ 0 < esize ∧ n * bytes ≤ 2 ^ 47 ∧ 0 < n ∧ vals h.length ls.length new = true) (.app t n (fun c => .s (.sl (.l ls.length) 0 n c)) (fun c => ls ++ [⟨.rw, new, c * esize⟩]))
        | .sl (.l k) 0 len cap => match ls[k]? with
          | some B => .ob (known new = true ∧ 0 < esize ∧ B.st = .rw ∧ B.cells.length = len * esize ∧ cap * esize ≤ B.room ∧ (len + n) * bytes ≤ 2 ^ 47 ∧ known B.cells = true ∧ unnamed k ls = true ∧
                new.all (fun s => !s.names k) = true ∧ vals h.length ls.length new = true)
              (.app (t.map (V.kill k)) (len + n) (fun c => .s (.sl (.l k) 0 (len + n) c)) (fun c => ls.set k ⟨.rw, B.cells ++ new, c * esize⟩))
          | none => .bad
        | _ => .bad
      | none => .bad
    | _, _ => .bad
  | .cpy esize x y => match ev t x, ev t y with
    | .s x, .s y => match shows ls h esize y with
      | some (n, src) => match x with
        | .sl r o len _ => match blk h ls r with
          | some B => .ob (B.st = .rw ∧ o + len * esize ≤ B.cells.length ∧ known src = true ∧ (sub src 0 (min n len * esize)).all (r.takes h.length ls.length) = true)
              (.ok (.s (.i .i64 (min n len : Nat))) (setL ls r { B with cells := put B.cells o (sub src 0 (min n len * esize)) })
                (setH h r { B with cells := put B.cells o (sub src 0 (min n len * esize)) }))
          | none => .bad
        | .ns => .ob (known src = true) (.ok (.s (.i .i64 0)) ls h)
        | _ => .bad
      | none => .bad
    | _, _ => .bad
  | .mx isMax x y => match ev t x, ev t y with
    | .s (.i k a), .s (.i _ b) => .ok (.s (.i k (if isMax then (if b > a then b else a) else (if b < a then b else a)))) ls h
    | _, _ => .bad

theorem bin1R_sound {Γ : FuncId → FSpec} {op : BinOp} {x y : S} {k : S → Res} {t : List V} {ls h : List Blk} {K : List V → V → List Blk → List Blk → Prop} {k' : S → Prop} (hk : ∀ s, (k s).holds Γ t ls h K → k' s)
    (hh : (bin1R op x y k).holds Γ t ls h K) : bin1 op x y k' := by
  unfold bin1R at hh
  unfold bin1
  split at hh
  · cases op <;> simp only at hh ⊢ <;> (try split at hh) <;> (try (simp only [Res.holds] at hh)) <;> first
      | exact hh.elim
      | exact ⟨by assumption, hk _ hh⟩
      | exact ⟨hh.1, hk _ hh.2⟩
      | exact ⟨⟨by assumption, hh.1⟩, hk _ hh.2⟩
  · exact hh.elim

theorem istep_sound {Γ : FuncId → FSpec} {op : I} {t : List V} {ls h : List Blk} {K : List V → V → List Blk → List Blk → Prop} (hh : (istep op t ls h).holds Γ t ls h K) : iwp Γ op t ls h K := by
  cases op <;> simp only [istep] at hh <;> simp only [iwp]
  case mv => exact hh
  case pick =>
    split at hh
    · rename_i q hq
      rw [hq]
      unfold pickR at hh
      split at hh <;> simp only [Res.holds] at hh
      · rename_i e1 e2
        exact bcase_intro (fun h1 => by rw [h1] at hh; simpa [e1] using hh) (fun h1 => by rw [h1] at hh; simpa [e2] using hh)
      · rename_i e1 e2
        exact bcase_intro (fun h1 => by have := hh.1 h1; simpa [e1] using this) (fun h1 => by have := hh.2 h1; simpa [e2] using this)
      · rename_i e1 e2
        exact bcase_intro (fun h1 => by have := hh.1 h1; simpa [e1] using this) (fun h1 => by have := hh.2 h1; simpa [e2] using this)
      · exact bcase_intro (fun h1 => by have := hh.1 h1; simpa using this) (fun h1 => by have := hh.2 h1; simpa using this)
    · exact hh.elim
  case new => exact hh
  case box x => exact hh
  case build => split at hh <;> simp_all [Res.holds]
  case bsl => split at hh <;> simp_all [Res.holds]
  case ld a n =>
    split at hh
    · rename_i r o hq
      rw [hq]
      simp only
      split at hh
      · rename_i B hB
        rw [hB]
        simp only
        cases n with
        | none =>
          simp only at hh ⊢
          split at hh
          · rename_i s hs
            rw [hs]
            exact hh
          · exact hh.elim
        | some n => exact hh
      · exact hh.elim
    · exact hh.elim
  case st a x n =>
    split at hh
    · rename_i r o hq
      rw [hq]
      simp only
      split at hh
      · rename_i B hB
        rw [hB]
        simp only
        exact hh
      · exact hh.elim
    · exact hh.elim
  case nil => split at hh <;> simp_all [Res.holds]
  case bin op x y =>
    split at hh
    · rename_i a b ha hb
      rw [ha, hb]
      simp only
      exact bin1R_sound (Γ := Γ) (t := t) (ls := ls) (h := h) (K := K) (k' := fun s => K t (.s s) ls h) (fun s hs => by simpa only [Res.holds] using hs) hh
    · exact hh.elim
  case eqb => split at hh <;> simp_all [Res.holds]
  case eqa neg ks x y =>
    split at hh
    · rename_i xs ys hx hy
      rw [hx, hy]
      simp only
      exact hh
    · exact hh.elim
  case eqn =>
    split at hh
    · rename_i a ha
      rw [ha]
      simp only
      split at hh
      · rename_i q hq; rw [hq]; exact hh
      · exact hh.elim
    · exact hh.elim
  case un =>
    split at hh
    · rename_i a ha
      rw [ha]
      simp only
      unfold un1R at hh
      unfold un1
      split at hh <;> first | exact hh | exact hh.elim
    · exact hh.elim
  case conv => split at hh <;> simp_all [Res.holds]
  case mkf => split at hh <;> simp_all [Res.holds]
  case mks esize bytes z x y =>
    split at hh
    · rename_i k1 n k2 c hx hy
      rw [hx, hy]
      simp only
      exact hh
    · exact hh.elim
  case slc arr esize x lo hi =>
    split at hh
    · rename_i n r o hq
      rw [hq]
      simp only
      unfold slcR at hh
      split at hh
      · rename_i l u hl hu; rw [hl, hu]; exact hh
      · exact hh.elim
    · rename_i r o n c hq
      rw [hq]
      simp only
      unfold slcR at hh
      split at hh
      · rename_i l u hl hu; rw [hl, hu]; exact hh
      · exact hh.elim
    · rename_i hq
      rw [hq]
      simp only
      split at hh
      · rename_i l u hl hu; rw [hl, hu]; exact hh
      · exact hh.elim
    · exact hh.elim
  case fa => split at hh <;> simp_all [Res.holds]
  case fld x off n =>
    split at hh
    · rename_i xs hx
      rw [hx]
      simp only
      cases n with
      | none =>
        simp only at hh ⊢
        split at hh
        · rename_i s hs; rw [hs]; exact hh
        · exact hh.elim
      | some n =>
        simp only at hh ⊢
        exact hh
    · exact hh.elim
  case ia arr esize x i =>
    split at hh
    · rename_i k iv hi
      rw [hi]
      simp only
      split at hh
      · rename_i n r o hx; rw [hx]; exact hh
      · rename_i r o n c hx; rw [hx]; exact hh
      · exact hh.elim
    · exact hh.elim
  case ix len esize n x i =>
    split at hh
    · rename_i xs k iv hx hi
      rw [hx, hi]
      simp only
      cases n with
      | none =>
        simp only at hh ⊢
        split at hh
        · rename_i s hs; rw [hs]; exact hh
        · exact hh.elim
      | some n =>
        simp only at hh ⊢
        obtain ⟨⟨h1, h2, h3⟩, hh⟩ := hh
        exact ⟨⟨h1, h2⟩, h3, hh⟩
    · exact hh.elim
  case ext x j =>
    split at hh
    · rename_i cs hx
      rw [hx]
      simp only
      split at hh
      · rename_i c hc; rw [hc]; exact hh
      · exact hh.elim
    · exact hh.elim
  case call => exact hh
  case callv =>
    split at hh
    · rename_i g cs hf; rw [hf]; exact hh
    · exact hh.elim
  case len => unfold lenR at hh; split at hh <;> simp_all [Res.holds]
  case app esize bytes x y =>
    split at hh
    · rename_i b y' hx hy
      rw [hx, hy]
      simp only
      split at hh
      · rename_i n new hsh
        rw [hsh]
        simp only
        split at hh
        · simp only
          obtain ⟨⟨h1, h2, h3, h4, h5⟩, hh⟩ := hh
          exact ⟨⟨h1, h2⟩, ⟨h3, h4, h5⟩, hh⟩
        · rename_i k len cap
          simp only
          split at hh
          · rename_i B hB
            rw [hB]
            obtain ⟨⟨h1, h2, h3⟩, hh⟩ := hh
            exact ⟨⟨h1, h2⟩, h3, hh⟩
          · exact hh.elim
        · exact hh.elim
      · exact hh.elim
    · exact hh.elim
  case cpy esize x y =>
    split at hh
    · rename_i x' y' hx hy
      rw [hx, hy]
      simp only
      split at hh
      · rename_i n src hsh
        rw [hsh]
        simp only
        split at hh
        · rename_i r o len c
          simp only
          split at hh
          · rename_i B hB; rw [hB]; exact hh
          · exact hh.elim
        · exact hh
        · exact hh.elim
      · exact hh.elim
    · exact hh.elim
  case mx => split at hh <;> simp_all [Res.holds]

/-! ### the machine -/
inductive Fr where
  | c (d : DC)
  | gi (l : List GI)
  | qgi (l : List GI)
  | blk (id : Nat)
  | lp (X : St → Prop)
  | je

def popTo (id : Nat) : List Fr → Option (List Fr)
  | [] => none
  | .blk j :: fs => if j = id then some fs else popTo id fs
  | .c _ :: fs => popTo id fs
  | .gi _ :: fs => popTo id fs
  | .qgi _ :: fs => popTo id fs
  | .lp _ :: fs => popTo id fs
  | .je :: fs => popTo id fs

mutual
/-- What must hold ahead of a stack of code. -/
def swp (Γ : FuncId → FSpec) (n0 : Nat) (K : Ex → St → Prop) : List Fr → St → Prop
  | [], s => K .nrm s
  | .c d :: fs, s => ∃ s', Wk n0 s s' ∧ dwp Γ n0 d s' fun e s => match e with
    | .nrm => swp Γ n0 K fs s
    | .ext id => swx Γ n0 K fs id s
    | .ret => K .ret s
  | .gi l :: fs, s => rwp Γ l s.t s.ls s.h fun t ls h => swp Γ n0 K fs ⟨t, ls, h⟩
  | .qgi l :: fs, s => rqwp Γ l s.t s.ls s.h fun t => swp Γ n0 K fs ⟨t, s.ls, s.h⟩
  | .blk _ :: fs, s => swp Γ n0 K fs s
  | .lp X :: _, s => X s
  | .je :: fs, s => swp Γ n0 K fs s
def swx (Γ : FuncId → FSpec) (n0 : Nat) (K : Ex → St → Prop) : List Fr → Nat → St → Prop
  | [], id, s => K (.ext id) s
  | .blk j :: fs, id, s => if j = id then swp Γ n0 K fs s else swx Γ n0 K fs id s
  | .c _ :: fs, id, s => swx Γ n0 K fs id s
  | .gi _ :: fs, id, s => swx Γ n0 K fs id s
  | .qgi _ :: fs, id, s => swx Γ n0 K fs id s
  | .lp _ :: fs, id, s => swx Γ n0 K fs id s
  | .je :: fs, id, s => swx Γ n0 K fs id s
end

inductive Stop where
  | done (e : Ex) (t : List V) (ls h : List Blk)
  | res (r : Res) (dst : Option Nat) (fs : List Fr) (t : List V) (ls h : List Blk)
  | loop (c : DC) (fs : List Fr) (t : List V) (ls h : List Blk)
  | lp (X : St → Prop) (t : List V) (ls h : List Blk)
  | leaf (fs : List Fr) (t : List V) (ls h : List Blk)
  | all (n : Nat) (f : Nat → Stop)
  | more (fs : List Fr) (t : List V) (ls h : List Blk)
  | bad

open Classical in
/-- What must hold, and what follows. -/
noncomputable def obS (p : Prop) (s : Stop) : Stop := if p then s else .bad

/-- Goes on where a region has ended. -/
def resume (k : List Fr → List V → List Blk → List Blk → Stop) : Stop → Stop
  | .leaf fs t ls h => k fs t ls h
  | .all n f => .all n fun c => resume k (f c)
  | s => s

def holds (Γ : FuncId → FSpec) (n0 : Nat) (K : Ex → St → Prop) : Stop → Prop
  | .done e t ls h => K e ⟨t, ls, h⟩
  | .res r dst fs t ls h => r.holds Γ t ls h fun t v ls h => swp Γ n0 K fs ⟨putD t dst v, ls, h⟩
  | .loop c fs t ls h => swp Γ n0 K (.c (.loop c) :: fs) ⟨t, ls, h⟩
  | .lp X t ls h => X ⟨t, ls, h⟩
  | .leaf fs t ls h => swp Γ n0 K fs ⟨t, ls, h⟩
  | .all n f => ∀ c, n ≤ c → holds Γ n0 K (f c)
  | .more fs t ls h => swp Γ n0 K fs ⟨t, ls, h⟩
  | .bad => False

theorem holds_obS {Γ : FuncId → FSpec} {n0 : Nat} {K : Ex → St → Prop} {p : Prop} {s : Stop} : holds Γ n0 K (obS p s) = (p ∧ holds Γ n0 K s) := by
  unfold obS
  by_cases h : p
  · simp [h]
  · simp [h, holds]

theorem holds_resume {Γ : FuncId → FSpec} {n0 : Nat} {K : Ex → St → Prop} {k : List Fr → List V → List Blk → List Blk → Stop} (hk : ∀ fs t ls h, holds Γ n0 K (k fs t ls h) → swp Γ n0 K fs ⟨t, ls, h⟩) :
    ∀ s : Stop, holds Γ n0 K (resume k s) → holds Γ n0 K s
  | .leaf fs t ls h, hh => hk fs t ls h hh
  | .all n f, hh => fun c hc => holds_resume hk (f c) (hh c hc)
  | .done .., hh => hh
  | .res .., hh => hh
  | .loop .., hh => hh
  | .lp .., hh => hh
  | .more .., hh => hh
  | .bad, hh => hh

/-- A spec by a result. -/
def Res.spec (K : V → List Blk → Prop) : Res → Prop
  | .ok v _ h => K v h
  | .ob p r => p ∧ r.spec K
  | .br b r1 r2 => (b = true → r1.spec K) ∧ (b = false → r2.spec K)
  | .all n f => ∀ c, n ≤ c → (f c).spec K
  | _ => False

def FSpec.of (g : List V → List Blk → Res) : FSpec := fun args h K => (g args h).spec K

/-- What is known of the functions that are called: their answers. -/
abbrev Tab := FuncId → List V → List Blk → Option Res
def Tab.ok (G : Tab) (Γ : FuncId → FSpec) : Prop := ∀ f args h r, G f args h = some r → ∀ K, r.spec K → Γ f args h K

def Res.into (ls : List Blk) : Res → Res
  | .ok v _ h => .ok v ls h
  | .ob p r => .ob p (r.into ls)
  | .br b r1 r2 => .br b (r1.into ls) (r2.into ls)
  | .all n f => .all n fun c => (f c).into ls
  | _ => .bad
def Res.unlend (n m : Nat) : Res → Res
  | .ok v _ h' => .ob (n + m ≤ h'.length ∧ clean n (h'.take n) = true) (.ok (v.ren (R.unlend n)) ((h'.drop n).map (Blk.ren (R.unlend n))) (h'.take n))
  | .ob p r => .ob p (r.unlend n m)
  | .br b r1 r2 => .br b (r1.unlend n m) (r2.unlend n m)
  | .all e f => .all e fun c => (f c).unlend n m
  | _ => .bad

/-- A call, by the table. -/
def callR (G : Tab) (f : FuncId) (args : List V) (ls h : List Blk) : Bool → Res
  | true => match G f args h with
    | some r => .ob (args.all V.known = true) (r.into ls)
    | none => .call f args
  | false => match G f (args.map (V.ren (R.lend h.length))) (h ++ ls.map (Blk.ren (R.lend h.length))) with
    | some r => .ob (args.all V.known = true) (r.unlend h.length ls.length)
    | none => .call f args

noncomputable def Res.go (k : V → List Blk → List Blk → Stop) (ka : List V → V → List Blk → Stop) (z : Res → Stop) : Res → Stop
  | .ok v ls h => k v ls h
  | .ob p r => obS p (r.go k ka z)
  | .br q r1 r2 => cond q (r1.go k ka z) (r2.go k ka z)
  | .app t n v ls => .all n fun c => ka t (v c) (ls c)
  | .all n f => .all n fun c => (f c).go k ka z
  | .call f args => z (.call f args)
  | .bad => .bad

noncomputable def Res.goQ (h : List Blk) (k : V → Stop) : Res → Stop
  | .ok v _ h' => obS (h' = h ∧ v.val 0 0 = true) (k v)
  | .ob p r => obS p (r.goQ h k)
  | .br q r1 r2 => cond q (r1.goQ h k) (r2.goQ h k)
  | _ => .bad

/-- An instruction and what follows it. -/
noncomputable def stepR (G : Tab) (dst : Option Nat) (fs : List Fr) (t : List V) (ls h : List Blk) (k : V → List Blk → List Blk → Stop) (ka : List V → V → List Blk → Stop) (r : Res) : Stop :=
  match r with
  | .call f args => (callR G f args ls h (args.all V.noL)).go k ka (fun r => .res r dst fs t ls h)
  | r => r.go k ka (fun r => .res r dst fs t ls h)

/-- The same where the order is drawn. -/
noncomputable def stepQ (G : Tab) (op : I) (h : List Blk) (k : V → Stop) (r : Res) : Stop :=
  match r with
  | .call f args => match op with
    | .call _ _ => match G f args h with
      | some r => obS (args.all V.known = true ∧ args.all V.noL = true) (r.goQ h k)
      | none => .bad
    | .callv _ _ => match G f args h with
      | some r => obS (args.all V.known = true ∧ args.all V.noL = true) (r.goQ h k)
      | none => .bad
    | _ => .bad
  | r => r.go (fun v _ _ => k v) (fun _ v _ => k v) fun _ => .bad

/-- Instructions of both kinds, a frame each. -/
def frames : List (Bool × GI) → List Fr → List Fr
  | [], fs => fs
  | (true, x) :: l, fs => .qgi [x] :: frames l fs
  | (false, x) :: l, fs => .gi [x] :: frames l fs

theorem swp_frames {Γ : FuncId → FSpec} {n0 : Nat} {K : Ex → St → Prop} {fs : List Fr} : ∀ (l : List (Bool × GI)) (t : List V) (ls h : List Blk), swp Γ n0 K (frames l fs) ⟨t, ls, h⟩ = mwp Γ l t ls h fun t ls h => swp Γ n0 K fs ⟨t, ls, h⟩
  | [], t, ls, h => by simp only [frames, mwp]
  | (true, x) :: l, t, ls, h => by simp only [frames, swp, rqwp, mwp, swp_frames l]
  | (false, x) :: l, t, ls, h => by simp only [frames, swp, rwp, mwp, swp_frames l]

/-- Runs as far as it goes. -/
noncomputable def run (G : Tab) : Nat → List Fr → List V → List Blk → List Blk → Stop
  | 0, fs, t, ls, h => .more fs t ls h
  | _ + 1, [], t, ls, h => .done .nrm t ls h
  | n + 1, .blk _ :: fs, t, ls, h => run G n fs t ls h
  | _ + 1, .lp X :: _, t, ls, h => .lp X t ls h
  | n + 1, .gi [] :: fs, t, ls, h => run G n fs t ls h
  | n + 1, .gi (⟨dst, op, none⟩ :: l) :: fs, t, ls, h =>
    stepR G dst (.gi l :: fs) t ls h (fun v ls h => run G n (.gi l :: fs) (putD t dst v) ls h) (fun t v ls => run G n (.gi l :: fs) (putD t dst v) ls h) (istep op t ls h)
  | n + 1, .gi (⟨dst, op, some (j, want)⟩ :: l) :: fs, t, ls, h => match t.getD j (.tup []) with
    | .s (.b q) => cond q
      (cond want (run G n (.gi (⟨dst, op, none⟩ :: l) :: fs) (t.set j (.s (.b true))) ls h) (run G n (.gi l :: fs) (putD (t.set j (.s (.b true))) dst (.tup [])) ls h))
      (cond want (run G n (.gi l :: fs) (putD (t.set j (.s (.b false))) dst (.tup [])) ls h) (run G n (.gi (⟨dst, op, none⟩ :: l) :: fs) (t.set j (.s (.b false))) ls h))
    | .tup [] => run G n (.gi l :: fs) (putD t dst (.tup [])) ls h
    | _ => .bad
  | n + 1, .qgi [] :: fs, t, ls, h => run G n fs t ls h
  | n + 1, .qgi (⟨dst, op, none⟩ :: l) :: fs, t, ls, h =>
    stepQ G op h (fun v => run G n (.qgi l :: fs) (putD t dst v) ls h) (istep op t ls h)
  | n + 1, .qgi (⟨dst, op, some (j, want)⟩ :: l) :: fs, t, ls, h => match t.getD j (.tup []) with
    | .s (.b q) => cond q
      (cond want (run G n (.qgi (⟨dst, op, none⟩ :: l) :: fs) (t.set j (.s (.b true))) ls h) (run G n (.qgi l :: fs) (putD (t.set j (.s (.b true))) dst (.tup [])) ls h))
      (cond want (run G n (.qgi l :: fs) (putD (t.set j (.s (.b false))) dst (.tup [])) ls h) (run G n (.qgi (⟨dst, op, none⟩ :: l) :: fs) (t.set j (.s (.b false))) ls h))
    | .tup [] => run G n (.qgi l :: fs) (putD t dst (.tup [])) ls h
    | _ => .bad
  | n + 1, .c .skip :: fs, t, ls, h => run G n fs t ls h
  | _ + 1, .je :: fs, t, ls, h => .leaf fs t ls h
  | n + 1, .c (.reg l) :: fs, t, ls, h => resume (fun fs t ls h => run G n fs t ls h) (run G n (.gi l :: .je :: fs) t ls h)
  | n + 1, .c (.drt _ l) :: fs, t, ls, h => resume (fun fs t ls h => run G n fs t ls h) (run G n (.gi l :: .je :: fs) t ls h)
  | n + 1, .c (.drm l) :: fs, t, ls, h => resume (fun fs t ls h => run G n fs t ls h) (run G n (frames l (.je :: fs)) t ls h)
  | n + 1, .c (.drq l) :: fs, t, ls, h => resume (fun fs t ls h => run G n fs t ls h) (run G n (.qgi l :: .je :: fs) t ls h)
  | n + 1, .c (.seq a b) :: fs, t, ls, h => run G n (.c a :: .c b :: fs) t ls h
  | n + 1, .c (.cond x a b) :: fs, t, ls, h => match ev t x with
    | .s (.b q) => cond q (run G n (.c a :: fs) t ls h) (run G n (.c b :: fs) t ls h)
    | _ => .bad
  | n + 1, .c (.block id c) :: fs, t, ls, h => run G n (.c c :: .blk id :: fs) t ls h
  | _ + 1, .c (.loop c) :: fs, t, ls, h => .loop c fs t ls h
  | n + 1, .c (.exit id) :: fs, t, ls, h => match popTo id fs with
    | some fs => run G n fs t ls h
    | none => .bad
  | _ + 1, .c .ret :: _, t, ls, h => .done .ret t ls h

theorem holds_cond {Γ : FuncId → FSpec} {n0 : Nat} {K : Ex → St → Prop} {q : Bool} {a b : Stop} (hh : holds Γ n0 K (cond q a b)) : (q = true → holds Γ n0 K a) ∧ (q = false → holds Γ n0 K b) := by
  cases q
  · exact ⟨fun e => Bool.noConfusion e, fun _ => hh⟩
  · exact ⟨fun _ => hh, fun e => Bool.noConfusion e⟩

theorem cond_holds {Γ : FuncId → FSpec} {n0 : Nat} {K : Ex → St → Prop} {q : Bool} {a b : Stop} (h1 : q = true → holds Γ n0 K a) (h2 : q = false → holds Γ n0 K b) : holds Γ n0 K (cond q a b) := by
  cases q
  · exact h2 rfl
  · exact h1 rfl

theorem swx_pop {Γ : FuncId → FSpec} {n0 : Nat} {K : Ex → St → Prop} {id : Nat} {s : St} : ∀ {fs fs' : List Fr}, popTo id fs = some fs' → swx Γ n0 K fs id s = swp Γ n0 K fs' s
  | [], _, h => by simp [popTo] at h
  | .blk j :: fs, fs', h => by
    simp only [popTo] at h
    simp only [swx]
    split at h
    · rename_i e; rw [if_pos e]; cases h; rfl
    · rename_i e; rw [if_neg e]; exact swx_pop h
  | .c _ :: fs, fs', h => by simp only [popTo] at h; simp only [swx]; exact swx_pop h
  | .gi _ :: fs, fs', h => by simp only [popTo] at h; simp only [swx]; exact swx_pop h
  | .qgi _ :: fs, fs', h => by simp only [popTo] at h; simp only [swx]; exact swx_pop h
  | .lp _ :: fs, fs', h => by simp only [popTo] at h; simp only [swx]; exact swx_pop h
  | .je :: fs, fs', h => by simp only [popTo] at h; simp only [swx]; exact swx_pop h

theorem qwp_iwp {Γ : FuncId → FSpec} {op : I} {t : List V} {ls h : List Blk} {K : V → Prop} (hc : ∀ f args, op ≠ .call f args) (hv : ∀ f args, op ≠ .callv f args) (hh : iwp Γ op t ls h fun _ v _ _ => K v) : qwp Γ op t ls h K := by
  cases op <;> first | exact hh | exact absurd rfl (hc _ _) | exact absurd rfl (hv _ _)

theorem ok_not_call {op : I} {t : List V} {ls h : List Blk} (e : ∀ f args, istep op t ls h ≠ .call f args) : ∀ g as, op ≠ .call g as := by
  intro g as he
  subst he
  exact e g (as.map (ev t)) rfl
theorem ok_not_callv {op : I} {t : List V} {ls h : List Blk} (e : ∀ f args, istep op t ls h ≠ .call f args) (hb : istep op t ls h ≠ .bad) : ∀ g as, op ≠ .callv g as := by
  intro g as he
  subst he
  cases hx : istep (.callv g as) t ls h with
  | call f args => exact e _ _ hx
  | bad => exact hb hx
  | _ => simp only [istep] at hx; split at hx <;> cases hx

/-- Going on from a result is sound. -/
theorem go_sound {Γ : FuncId → FSpec} {n0 : Nat} {K : Ex → St → Prop} {fs : List Fr} {dst : Option Nat} {t : List V} {ls h : List Blk} {k : V → List Blk → List Blk → Stop} {ka : List V → V → List Blk → Stop} {z : Res → Stop}
    (hk : ∀ v ls' h', holds Γ n0 K (k v ls' h') → swp Γ n0 K fs ⟨putD t dst v, ls', h'⟩) (hka : ∀ t v ls', holds Γ n0 K (ka t v ls') → swp Γ n0 K fs ⟨putD t dst v, ls', h⟩)
    (hz : ∀ f args, holds Γ n0 K (z (.call f args)) → (Res.call f args).holds Γ t ls h fun t v ls h => swp Γ n0 K fs ⟨putD t dst v, ls, h⟩) :
    ∀ r : Res, holds Γ n0 K (r.go k ka z) → r.holds Γ t ls h fun t v ls h => swp Γ n0 K fs ⟨putD t dst v, ls, h⟩
  | .ok v ls' h', hh => hk v ls' h' hh
  | .ob p r, hh => by
    simp only [Res.go, holds_obS] at hh
    exact ⟨hh.1, go_sound hk hka hz r hh.2⟩
  | .br q r1 r2, hh => ⟨fun e => go_sound hk hka hz r1 ((holds_cond hh).1 e), fun e => go_sound hk hka hz r2 ((holds_cond hh).2 e)⟩
  | .app t' n v ls', hh => fun c hc => hka _ _ _ (hh c hc)
  | .all n f, hh => fun c hc => go_sound hk hka hz (f c) (hh c hc)
  | .call f args, hh => hz f args hh
  | .bad, hh => hh.elim

theorem into_spec {Γ : FuncId → FSpec} {t : List V} {ls h : List Blk} {K : List V → V → List Blk → List Blk → Prop} : ∀ r : Res, (r.into ls).holds Γ t ls h K → r.spec fun v h' => K t v ls h'
  | .ok _ _ _, hh => hh
  | .ob _ r, hh => ⟨hh.1, into_spec r hh.2⟩
  | .br _ r1 r2, hh => ⟨fun e => into_spec r1 (hh.1 e), fun e => into_spec r2 (hh.2 e)⟩
  | .all _ f, hh => fun c hc => into_spec (f c) (hh c hc)
  | .app .., hh => hh.elim
  | .call .., hh => hh.elim
  | .bad, hh => hh.elim

theorem unlend_spec {Γ : FuncId → FSpec} {t : List V} {ls h : List Blk} {n m : Nat} {K : List V → V → List Blk → List Blk → Prop} : ∀ r : Res, (r.unlend n m).holds Γ t ls h K →
    r.spec fun v h' => ob (n + m ≤ h'.length ∧ clean n (h'.take n) = true) (K t (v.ren (R.unlend n)) ((h'.drop n).map (Blk.ren (R.unlend n))) (h'.take n))
  | .ok _ _ _, hh => hh
  | .ob _ r, hh => ⟨hh.1, unlend_spec r hh.2⟩
  | .br _ r1 r2, hh => ⟨fun e => unlend_spec r1 (hh.1 e), fun e => unlend_spec r2 (hh.2 e)⟩
  | .all _ f, hh => fun c hc => unlend_spec (f c) (hh c hc)
  | .app .., hh => hh.elim
  | .call .., hh => hh.elim
  | .bad, hh => hh.elim

theorem callR_sound {Γ : FuncId → FSpec} {G : Tab} (hG : G.ok Γ) {f : FuncId} {args : List V} {t : List V} {ls h : List Blk} {K : List V → V → List Blk → List Blk → Prop}
    (hh : (callR G f args ls h (args.all V.noL)).holds Γ t ls h K) : callK Γ f args ls h fun v ls h => K t v ls h := by
  cases hn : args.all V.noL <;> rw [hn] at hh
  · simp only [callR] at hh
    split at hh
    · rename_i r hr
      refine ⟨hh.1, ?_⟩
      rw [hn]
      simp only [bcase, Bool.false_eq_true, if_false]
      exact hG _ _ _ _ hr _ (unlend_spec r hh.2)
    · exact hh
  · simp only [callR] at hh
    split at hh
    · rename_i r hr
      refine ⟨hh.1, ?_⟩
      rw [hn]
      simp only [bcase, if_true]
      exact hG _ _ _ _ hr _ (into_spec r hh.2)
    · exact hh

theorem stepR_sound {Γ : FuncId → FSpec} {G : Tab} (hG : G.ok Γ) {n0 : Nat} {K : Ex → St → Prop} {fs : List Fr} {dst : Option Nat} {op : I} {t : List V} {ls h : List Blk} {k : V → List Blk → List Blk → Stop} {ka : List V → V → List Blk → Stop}
    (hk : ∀ v ls' h', holds Γ n0 K (k v ls' h') → swp Γ n0 K fs ⟨putD t dst v, ls', h'⟩) (hka : ∀ t v ls', holds Γ n0 K (ka t v ls') → swp Γ n0 K fs ⟨putD t dst v, ls', h⟩)
    (hh : holds Γ n0 K (stepR G dst fs t ls h k ka (istep op t ls h))) : iwp Γ op t ls h fun t v ls h => swp Γ n0 K fs ⟨putD t dst v, ls, h⟩ := by
  refine istep_sound ?_
  unfold stepR at hh
  split at hh
  · rename_i f args e
    rw [e]
    exact callR_sound (t := t) (K := fun t v ls h => swp Γ n0 K fs ⟨putD t dst v, ls, h⟩) hG (go_sound hk hka (fun f args hz => by simpa only [holds] using hz) _ hh)
  · exact go_sound hk hka (fun f args hz => by simpa only [holds] using hz) _ hh

theorem goQ_sound {Γ : FuncId → FSpec} {n0 : Nat} {K : Ex → St → Prop} {h : List Blk} {k : V → Stop} {Q : V → Prop} (hk : ∀ v, holds Γ n0 K (k v) → Q v) :
    ∀ r : Res, holds Γ n0 K (r.goQ h k) → ∃ v : V, v.val 0 0 = true ∧ r.spec (fun v' h' => v' = v ∧ h' = h) ∧ Q v
  | .ok v _ h', hh => by
    simp only [Res.goQ, holds_obS] at hh
    exact ⟨v, hh.1.2, ⟨rfl, hh.1.1⟩, hk v hh.2⟩
  | .ob p r, hh => by
    simp only [Res.goQ, holds_obS] at hh
    obtain ⟨v, h1, h2, h3⟩ := goQ_sound hk r hh.2
    exact ⟨v, h1, ⟨hh.1, h2⟩, h3⟩
  | .br q r1 r2, hh => by
    have hc := holds_cond hh
    cases q
    · obtain ⟨v, h1, h2, h3⟩ := goQ_sound hk r2 (hc.2 rfl)
      exact ⟨v, h1, ⟨fun e => Bool.noConfusion e, fun _ => h2⟩, h3⟩
    · obtain ⟨v, h1, h2, h3⟩ := goQ_sound hk r1 (hc.1 rfl)
      exact ⟨v, h1, ⟨fun _ => h2, fun e => Bool.noConfusion e⟩, h3⟩
  | .all .., hh => hh.elim
  | .app .., hh => hh.elim
  | .call .., hh => hh.elim
  | .bad, hh => hh.elim

theorem goQ_iwp {Γ : FuncId → FSpec} {n0 : Nat} {K : Ex → St → Prop} {t : List V} {ls h : List Blk} {k : V → Stop} {Q : V → Prop} (hk : ∀ v, holds Γ n0 K (k v) → Q v) :
    ∀ r : Res, holds Γ n0 K (r.go (fun v _ _ => k v) (fun _ v _ => k v) fun _ => .bad) → r.holds Γ t ls h fun _ v _ _ => Q v
  | .ok v ls' h', hh => hk v hh
  | .ob p r, hh => by
    simp only [Res.go, holds_obS] at hh
    exact ⟨hh.1, goQ_iwp hk r hh.2⟩
  | .br q r1 r2, hh => ⟨fun e => goQ_iwp hk r1 ((holds_cond hh).1 e), fun e => goQ_iwp hk r2 ((holds_cond hh).2 e)⟩
  | .app t' n v ls', hh => fun c hc => hk _ (hh c hc)
  | .all n f, hh => fun c hc => goQ_iwp hk (f c) (hh c hc)
  | .call f args, hh => hh.elim
  | .bad, hh => hh.elim

theorem stepQ_sound {Γ : FuncId → FSpec} {G : Tab} (hG : G.ok Γ) {n0 : Nat} {K : Ex → St → Prop} {op : I} {t : List V} {ls h : List Blk} {k : V → Stop} {Q : V → Prop} (hk : ∀ v, holds Γ n0 K (k v) → Q v)
    (hh : holds Γ n0 K (stepQ G op h k (istep op t ls h))) : qwp Γ op t ls h Q := by
  unfold stepQ at hh
  split at hh
  · rename_i f args e
    split at hh
    · rename_i f' as
      simp only [istep, Res.call.injEq] at e
      obtain ⟨rfl, rfl⟩ := e
      split at hh
      · rename_i r hr
        rw [holds_obS] at hh
        obtain ⟨v, h1, h2, h3⟩ := goQ_sound hk r hh.2
        exact ⟨hh.1, v, h1, hG _ _ _ _ hr _ h2, h3⟩
      · exact hh.elim
    · rename_i f' as
      simp only [istep] at e
      simp only [qwp]
      split at e
      · rename_i g cs hev
        simp only [Res.call.injEq] at e
        obtain ⟨rfl, rfl⟩ := e
        rw [hev]
        simp only
        split at hh
        · rename_i r hr
          rw [holds_obS] at hh
          obtain ⟨v, h1, h2, h3⟩ := goQ_sound hk r hh.2
          exact ⟨hh.1, v, h1, hG _ _ _ _ hr _ h2, h3⟩
        · exact hh.elim
      · cases e
    · exact hh.elim
  · rename_i hno
    exact qwp_iwp (ok_not_call fun f args e => hno f args e) (ok_not_callv (fun f args e => hno f args e) (fun e => by rw [e] at hh; exact hh.elim)) (istep_sound (goQ_iwp hk _ hh))

theorem run_sound {Γ : FuncId → FSpec} {G : Tab} (hG : G.ok Γ) {n0 : Nat} {K : Ex → St → Prop} : ∀ (n : Nat) (fs : List Fr) (t : List V) (ls h : List Blk), holds Γ n0 K (run G n fs t ls h) → swp Γ n0 K fs ⟨t, ls, h⟩ := by
  intro n
  induction n with
  | zero => intro fs t ls h hh; simpa only [run, holds] using hh
  | succ n ih =>
    intro fs t ls h hh
    match fs with
    | [] => simpa only [run, holds, swp] using hh
    | .blk _ :: fs => simp only [run] at hh; simp only [swp]; exact ih _ _ _ _ hh
    | .lp X :: fs => simpa only [run, holds, swp] using hh
    | .je :: fs => simpa only [run, holds, swp] using hh
    | .gi [] :: fs => simp only [run] at hh; simp only [swp, rwp]; exact ih _ _ _ _ hh
    | .gi (⟨dst, op, none⟩ :: l) :: fs =>
      simp only [run] at hh
      have := stepR_sound hG (fun v ls' h' hq => ih _ _ _ _ hq) (fun t v ls' hq => ih _ _ _ _ hq) hh
      simpa only [swp, rwp, gwp] using this
    | .gi (⟨dst, op, some (j, want)⟩ :: l) :: fs =>
      simp only [run] at hh
      simp only [swp, rwp, gwp]
      split at hh
      · rename_i q hq
        simp only [hq]
        have hc := holds_cond hh
        refine bcase_intro (fun e => ?_) (fun e => ?_)
        · have h1 := hc.1 e
          cases want with
          | true =>
            have := ih _ _ _ _ h1
            simpa [swp, rwp, gwp] using this
          | false =>
            have := ih _ _ _ _ h1
            simpa [swp, rwp, gwp] using this
        · have h1 := hc.2 e
          cases want with
          | true =>
            have := ih _ _ _ _ h1
            simpa [swp, rwp, gwp] using this
          | false =>
            have := ih _ _ _ _ h1
            simpa [swp, rwp, gwp] using this
      · rename_i hq
        simp only [hq]
        have := ih _ _ _ _ hh
        simpa only [swp] using this
      · exact hh.elim
    | .qgi [] :: fs => simp only [run] at hh; simp only [swp, rqwp]; exact ih _ _ _ _ hh
    | .qgi (⟨dst, op, none⟩ :: l) :: fs =>
      simp only [run] at hh
      have := stepQ_sound (Q := fun v => swp Γ n0 K (.qgi l :: fs) ⟨putD t dst v, ls, h⟩) hG (fun v hq => ih _ _ _ _ hq) hh
      simpa only [swp, rqwp, gqwp] using this
    | .qgi (⟨dst, op, some (j, want)⟩ :: l) :: fs =>
      simp only [run] at hh
      simp only [swp, rqwp, gqwp]
      split at hh
      · rename_i q hq
        simp only [hq]
        have hc := holds_cond hh
        refine bcase_intro (fun e => ?_) (fun e => ?_)
        · have h1 := hc.1 e
          cases want with
          | true =>
            have := ih _ _ _ _ h1
            simpa [swp, rqwp, gqwp] using this
          | false =>
            have := ih _ _ _ _ h1
            simpa [swp, rqwp, gqwp] using this
        · have h1 := hc.2 e
          cases want with
          | true =>
            have := ih _ _ _ _ h1
            simpa [swp, rqwp, gqwp] using this
          | false =>
            have := ih _ _ _ _ h1
            simpa [swp, rqwp, gqwp] using this
      · rename_i hq
        simp only [hq]
        have := ih _ _ _ _ hh
        simpa only [swp] using this
      · exact hh.elim
    | .c .skip :: fs => simp only [run] at hh; simp only [swp]; exact ⟨_, .refl, by simp only [dwp]; exact ih _ _ _ _ hh⟩
    | .c (.reg l) :: fs =>
      simp only [run] at hh; simp only [swp]
      refine ⟨_, .refl, ?_⟩
      simp only [dwp]
      have := ih _ _ _ _ (holds_resume (fun fs t ls h hq => ih fs t ls h hq) _ hh)
      simpa only [swp] using this
    | .c (.drt _ l) :: fs =>
      simp only [run] at hh; simp only [swp]
      refine ⟨_, .refl, ?_⟩
      simp only [dwp]
      have := ih _ _ _ _ (holds_resume (fun fs t ls h hq => ih fs t ls h hq) _ hh)
      simpa only [swp] using this
    | .c (.drq l) :: fs =>
      simp only [run] at hh; simp only [swp]
      refine ⟨_, .refl, ?_⟩
      simp only [dwp]
      have := ih _ _ _ _ (holds_resume (fun fs t ls h hq => ih fs t ls h hq) _ hh)
      simpa only [swp] using this
    | .c (.drm l) :: fs =>
      simp only [run] at hh; simp only [swp]
      refine ⟨_, .refl, ?_⟩
      simp only [dwp]
      have := ih _ _ _ _ (holds_resume (fun fs t ls h hq => ih fs t ls h hq) _ hh)
      rw [swp_frames] at this
      simpa only [swp] using this
    | .c (.seq a b) :: fs =>
      simp only [run] at hh; simp only [swp]
      have := ih _ _ _ _ hh
      simp only [swp] at this
      obtain ⟨s', hW, this⟩ := this
      refine ⟨s', hW, ?_⟩
      simp only [dwp]
      refine cast ?_ this
      congr 1
      funext e s
      cases e <;> simp only [swp, swx]
    | .c (.cond x a b) :: fs =>
      simp only [run] at hh; simp only [swp]
      split at hh
      · rename_i q hq
        have hc := holds_cond hh
        refine ⟨_, .refl, ?_⟩
        simp only [dwp, hq]
        refine bcase_intro (fun e => ?_) (fun e => ?_)
        · have := ih _ _ _ _ (hc.1 e)
          simpa only [swp, if_true] using this
        · have := ih _ _ _ _ (hc.2 e)
          simpa only [swp, Bool.false_eq_true, if_false] using this
      · exact hh.elim
    | .c (.block id c) :: fs =>
      simp only [run] at hh; simp only [swp]
      have := ih _ _ _ _ hh
      simp only [swp] at this
      obtain ⟨s', hW, this⟩ := this
      refine ⟨s', hW, ?_⟩
      simp only [dwp]
      refine cast ?_ this
      congr 1
      funext e s
      cases e <;> simp only [swp, swx]
      rename_i j
      by_cases hj : id = j
      · rw [if_pos hj, if_pos hj.symm]
      · rw [if_neg hj, if_neg (fun e => hj e.symm)]
    | .c (.loop c) :: fs => simpa only [run, holds] using hh
    | .c (.exit id) :: fs =>
      simp only [run] at hh; simp only [swp]
      refine ⟨_, .refl, ?_⟩
      simp only [dwp]
      split at hh
      · rename_i fs' hp
        rw [swx_pop hp]
        exact ih _ _ _ _ hh
      · exact hh.elim
    | .c .ret :: fs =>
      simp only [run, holds] at hh; simp only [swp]
      exact ⟨_, .refl, by simpa only [dwp] using hh⟩

theorem swp_loop {Γ : FuncId → FSpec} {n0 : Nat} {K : Ex → St → Prop} {c : DC} {fs : List Fr} {s : St} (hh : ∀ X : St → Prop, (∀ s, swp Γ n0 K (.c c :: .lp X :: fs) s → X s) → X s) : swp Γ n0 K (.c (.loop c) :: fs) s := by
  simp only [swp, dwp]
  refine ⟨_, .refl, fun X hX => hh X (fun s hs => hX s ?_)⟩
  simp only [swp] at hs
  obtain ⟨s', hW, hs⟩ := hs
  refine ⟨s', hW, cast ?_ hs⟩
  congr 1
  funext e s
  cases e <;> simp only [swp, swx]

/-- What a function leaves at its end, no more than that. -/
def finP (rs : List RV) (K : V → List Blk → Prop) (e : Ex) (s : St) : Prop :=
  match e with
  | .ext _ => False
  | _ => match rvals s rs with
    | some l => leave (result l) s.ls s.h K
    | none => False

theorem finP_fin {n0 : Nat} {rs : List RV} {K : V → List Blk → Prop} {e : Ex} {s : St} (h : finP rs K e s) : fin n0 rs K e s := by
  cases e with
  | ext id => exact h
  | nrm =>
    cases hr : rvals s rs with
    | none => simp only [finP, hr] at h
    | some l => simp only [finP, fin, hr] at *; exact ⟨_, _, _, .refl, h⟩
  | ret =>
    cases hr : rvals s rs with
    | none => simp only [finP, hr] at h
    | some l => simp only [finP, fin, hr] at *; exact ⟨_, _, _, .refl, h⟩

theorem fwp_of {Γ : FuncId → FSpec} {F : DF} {args : List V} {h : List Blk} {K : V → List Blk → Prop} (Kf : Ex → St → Prop) (hK : ∀ e s, Kf e s → fin h.length F.res K e s)
    (hh : swp Γ h.length Kf [.c F.body] ⟨args ++ List.replicate (F.ntmps - args.length) (.tup []), [], h⟩) : fwp Γ F args h K := by
  simp only [swp] at hh
  obtain ⟨s', hW, hh⟩ := hh
  refine ⟨Kf, hK, s', hW, cast ?_ hh⟩
  congr 1
  funext e s
  cases e <;> simp only [swp, swx]

/-- A function by its run. -/
theorem fwp_run {Γ : FuncId → FSpec} {G : Tab} (hG : G.ok Γ) {F : DF} {args : List V} {h : List Blk} {K : V → List Blk → Prop} (n : Nat)
    (hh : holds Γ h.length (finP F.res K) (run G n [.c F.body] (args ++ List.replicate (F.ntmps - args.length) (.tup [])) [] h)) : fwp Γ F args h K :=
  fwp_of _ (fun _ _ => finP_fin) (run_sound hG _ _ _ _ _ hh)

/-- The same, the end being weakened by hand. -/
theorem fwp_runW {Γ : FuncId → FSpec} {G : Tab} (hG : G.ok Γ) {F : DF} {args : List V} {h : List Blk} {K : V → List Blk → Prop} (n : Nat)
    (hh : holds Γ h.length (fin h.length F.res K) (run G n [.c F.body] (args ++ List.replicate (F.ntmps - args.length) (.tup [])) [] h)) : fwp Γ F args h K :=
  fwp_of _ (fun _ _ => id) (run_sound hG _ _ _ _ _ hh)

/-- What tells less, ahead of a piece of code. -/
theorem swp_weak {Γ : FuncId → FSpec} {n0 : Nat} {K : Ex → St → Prop} {d : DC} {fs : List Fr} {s s' : St} (hW : Wk n0 s s') (hh : swp Γ n0 K (.c d :: fs) s') : swp Γ n0 K (.c d :: fs) s := by
  simp only [swp] at hh ⊢
  obtain ⟨s2, hW2, hh⟩ := hh
  exact ⟨s2, hW.trans hW2, hh⟩

theorem call_stop {Γ : FuncId → FSpec} {f : FuncId} {args : List V} {ls h : List Blk} {K : V → List Blk → List Blk → Prop} (hk : args.all V.known = true) (hn : args.all V.noL = true)
    (hS : Γ f args h fun v h' => K v ls h') : callK Γ f args ls h K := by
  refine ⟨hk, ?_⟩
  rw [hn]
  exact hS

/-! ### the machine's equations -/
section eqs
variable {G : Tab} {n : Nat} {fs fs' : List Fr} {t t' : List V} {ls h ls' h' : List Blk} {l : List GI} {op : I} {dst : Option Nat} {j id e : Nat} {c d a b : DC} {x : Opd} {want q : Bool} {v : V} {p : Prop} {r r1 r2 : Res} {f : FuncId} {args : List V}
  {v' : Nat → V} {ls'' : Nat → List Blk}
noncomputable def cont (G : Tab) (n : Nat) (dst : Option Nat) (l : List GI) (fs : List Fr) (t : List V) (ls h : List Blk) (r : Res) : Stop :=
  stepR G dst (.gi l :: fs) t ls h (fun v ls h => run G n (.gi l :: fs) (putD t dst v) ls h) (fun t v ls => run G n (.gi l :: fs) (putD t dst v) ls h) r
noncomputable def contG (G : Tab) (n : Nat) (dst : Option Nat) (l : List GI) (fs : List Fr) (t : List V) (ls h : List Blk) (r : Res) : Stop :=
  r.go (fun v ls h => run G n (.gi l :: fs) (putD t dst v) ls h) (fun t v ls => run G n (.gi l :: fs) (putD t dst v) ls h) (fun r => .res r dst (.gi l :: fs) t ls h)
noncomputable def contQ (G : Tab) (n : Nat) (dst : Option Nat) (op : I) (l : List GI) (fs : List Fr) (t : List V) (ls h : List Blk) (r : Res) : Stop :=
  stepQ G op h (fun v => run G n (.qgi l :: fs) (putD t dst v) ls h) r
noncomputable def contQ2 (G : Tab) (n : Nat) (dst : Option Nat) (l : List GI) (fs : List Fr) (t : List V) (ls h : List Blk) (r : Res) : Stop :=
  r.go (fun v _ _ => run G n (.qgi l :: fs) (putD t dst v) ls h) (fun _ v _ => run G n (.qgi l :: fs) (putD t dst v) ls h) (fun _ => .bad)
noncomputable def contQG (G : Tab) (n : Nat) (dst : Option Nat) (l : List GI) (fs : List Fr) (t : List V) (ls h : List Blk) (args : List V) (r : Option Res) : Stop :=
  match r with
  | some r => obS (args.all V.known = true ∧ args.all V.noL = true) (r.goQ h (fun v => run G n (.qgi l :: fs) (putD t dst v) ls h))
  | none => .bad
noncomputable def contQH (G : Tab) (n : Nat) (dst : Option Nat) (l : List GI) (fs : List Fr) (t : List V) (ls h : List Blk) (r : Res) : Stop :=
  r.goQ h (fun v => run G n (.qgi l :: fs) (putD t dst v) ls h)
noncomputable def guard (G : Tab) (n : Nat) (dst : Option Nat) (op : I) (j : Nat) (want : Bool) (l : List GI) (fs : List Fr) (t : List V) (ls h : List Blk) (v : V) : Stop :=
  match v with
    | .s (.b q) => cond q
      (cond want (run G n (.gi (⟨dst, op, none⟩ :: l) :: fs) (t.set j (.s (.b true))) ls h) (run G n (.gi l :: fs) (putD (t.set j (.s (.b true))) dst (.tup [])) ls h))
      (cond want (run G n (.gi l :: fs) (putD (t.set j (.s (.b false))) dst (.tup [])) ls h) (run G n (.gi (⟨dst, op, none⟩ :: l) :: fs) (t.set j (.s (.b false))) ls h))
    | .tup [] => run G n (.gi l :: fs) (putD t dst (.tup [])) ls h
    | _ => .bad
noncomputable def guardQ (G : Tab) (n : Nat) (dst : Option Nat) (op : I) (j : Nat) (want : Bool) (l : List GI) (fs : List Fr) (t : List V) (ls h : List Blk) (v : V) : Stop :=
  match v with
    | .s (.b q) => cond q
      (cond want (run G n (.qgi (⟨dst, op, none⟩ :: l) :: fs) (t.set j (.s (.b true))) ls h) (run G n (.qgi l :: fs) (putD (t.set j (.s (.b true))) dst (.tup [])) ls h))
      (cond want (run G n (.qgi l :: fs) (putD (t.set j (.s (.b false))) dst (.tup [])) ls h) (run G n (.qgi (⟨dst, op, none⟩ :: l) :: fs) (t.set j (.s (.b false))) ls h))
    | .tup [] => run G n (.qgi l :: fs) (putD t dst (.tup [])) ls h
    | _ => .bad
noncomputable def condV (G : Tab) (n : Nat) (a b : DC) (fs : List Fr) (t : List V) (ls h : List Blk) (v : V) : Stop :=
  match v with
    | .s (.b q) => cond q (run G n (.c a :: fs) t ls h) (run G n (.c b :: fs) t ls h)
    | _ => .bad
noncomputable def exitV (G : Tab) (n : Nat) (t : List V) (ls h : List Blk) : Option (List Fr) → Stop
    | some fs => run G n fs t ls h
    | none => .bad
def callO (args : List V) (ls : List Blk) (f : FuncId) : Option Res → Res
  | some r => .ob (args.all V.known = true) (r.into ls)
  | none => .call f args
def callL (args : List V) (n m : Nat) (f : FuncId) : Option Res → Res
  | some r => .ob (args.all V.known = true) (r.unlend n m)
  | none => .call f args
/-- A temporary, read. -/
def tg : Option V → V
  | some v => v
  | none => .tup []
theorem tg_some : tg (some v) = v := (rfl)
theorem ev_t {i : Nat} : ev t (.t i) = tg t[i]? := by
  simp only [ev, List.getD]; cases t[i]? <;> rfl
theorem ev_k : ev t (.k v) = v := (rfl)
theorem getD_tg {i : Nat} : t.getD i (.tup []) = tg t[i]? := by
  simp only [List.getD]; cases t[i]? <;> rfl
def rvT : V → Option C
  | .s x => some (.s x)
  | .agg xs => some (.agg xs)
  | .tup _ => none
theorem rvT_s {x : S} : rvT (.s x) = some (.s x) := (rfl)
theorem rvT_agg {x : List S} : rvT (.agg x) = some (.agg x) := (rfl)
def rvC (h ls : List Blk) (n : Option Nat) : V → Option C
  | .s (.p r o) => match blk h ls r with
      | some B => if B.st = .dead then none else match n with
        | none => (B.cells[o]?).map C.s
        | some n => if o + n ≤ B.cells.length then some (.agg (sub B.cells o n)) else none
      | none => none
  | _ => none
theorem rval_t {i : Nat} : rval ⟨t, ls, h⟩ (.t i) = rvT (tg t[i]?) := by
  simp only [rval, getD_tg]; rfl
theorem rval_c {i : Nat} {n : Option Nat} : rval ⟨t, ls, h⟩ (.c i n) = rvC h ls n (tg t[i]?) := by
  simp only [rval, getD_tg]; rfl
theorem callR_t : callR G f args ls h true = callO args ls f (G f args h) := by unfold callR callO; rfl
theorem callR_f : callR G f args ls h false = callL args h.length ls.length f (G f (args.map (V.ren (R.lend h.length))) (h ++ ls.map (Blk.ren (R.lend h.length)))) := by unfold callR callL; rfl
theorem callO_some : callO args ls f (some r) = .ob (args.all V.known = true) (r.into ls) := (rfl)
theorem callO_none : callO args ls f none = .call f args := (rfl)
theorem callL_some {n m : Nat} : callL args n m f (some r) = .ob (args.all V.known = true) (r.unlend n m) := (rfl)
theorem callL_none {n m : Nat} : callL args n m f none = .call f args := (rfl)
theorem cont_ok : cont G n dst l fs t ls h (.ok v ls' h') = run G n (.gi l :: fs) (putD t dst v) ls' h' := (rfl)
theorem cont_br : cont G n dst l fs t ls h (.br q r1 r2) = cond q (contG G n dst l fs t ls h r1) (contG G n dst l fs t ls h r2) := (rfl)
theorem cont_ob : cont G n dst l fs t ls h (.ob p r) = obS p (contG G n dst l fs t ls h r) := (rfl)
theorem cont_call : cont G n dst l fs t ls h (.call f args) = contG G n dst l fs t ls h (callR G f args ls h (args.all V.noL)) := (rfl)
theorem cont_app : cont G n dst l fs t ls h (.app t' e v' ls'') = .all e fun c => run G n (.gi l :: fs) (putD t' dst (v' c)) (ls'' c) h := (rfl)
theorem cont_bad : cont G n dst l fs t ls h .bad = .bad := (rfl)
theorem contG_ok : contG G n dst l fs t ls h (.ok v ls' h') = run G n (.gi l :: fs) (putD t dst v) ls' h' := (rfl)
theorem contG_br : contG G n dst l fs t ls h (.br q r1 r2) = cond q (contG G n dst l fs t ls h r1) (contG G n dst l fs t ls h r2) := (rfl)
theorem contG_ob : contG G n dst l fs t ls h (.ob p r) = obS p (contG G n dst l fs t ls h r) := (rfl)
theorem contG_call : contG G n dst l fs t ls h (.call f args) = .res (.call f args) dst (.gi l :: fs) t ls h := (rfl)
theorem contG_app : contG G n dst l fs t ls h (.app t' e v' ls'') = .all e fun c => run G n (.gi l :: fs) (putD t' dst (v' c)) (ls'' c) h := (rfl)
theorem contG_bad : contG G n dst l fs t ls h .bad = .bad := (rfl)
theorem contQ_ok : contQ G n dst op l fs t ls h (.ok v ls' h') = run G n (.qgi l :: fs) (putD t dst v) ls h := (rfl)
theorem contQ_br : contQ G n dst op l fs t ls h (.br q r1 r2) = cond q (contQ2 G n dst l fs t ls h r1) (contQ2 G n dst l fs t ls h r2) := (rfl)
theorem contQ_ob : contQ G n dst op l fs t ls h (.ob p r) = obS p (contQ2 G n dst l fs t ls h r) := (rfl)
theorem contQ_call {as : List Opd} : contQ G n dst (.call f as) l fs t ls h (.call f args) = contQG G n dst l fs t ls h args (G f args h) := by
  unfold contQ stepQ contQG; rfl
theorem contQ_callv {g : Opd} {as : List Opd} : contQ G n dst (.callv g as) l fs t ls h (.call f args) = contQG G n dst l fs t ls h args (G f args h) := by
  unfold contQ stepQ contQG; rfl
theorem contQ_bad : contQ G n dst op l fs t ls h .bad = .bad := (rfl)
theorem contQ2_ok : contQ2 G n dst l fs t ls h (.ok v ls' h') = run G n (.qgi l :: fs) (putD t dst v) ls h := (rfl)
theorem contQ2_br : contQ2 G n dst l fs t ls h (.br q r1 r2) = cond q (contQ2 G n dst l fs t ls h r1) (contQ2 G n dst l fs t ls h r2) := (rfl)
theorem contQ2_ob : contQ2 G n dst l fs t ls h (.ob p r) = obS p (contQ2 G n dst l fs t ls h r) := (rfl)
theorem contQG_some : contQG G n dst l fs t ls h args (some r) = obS (args.all V.known = true ∧ args.all V.noL = true) (contQH G n dst l fs t ls h r) := (rfl)
theorem contQH_ok : contQH G n dst l fs t ls h (.ok v ls' h') = obS (h' = h ∧ v.val 0 0 = true) (run G n (.qgi l :: fs) (putD t dst v) ls h) := (rfl)
theorem contQH_br : contQH G n dst l fs t ls h (.br q r1 r2) = cond q (contQH G n dst l fs t ls h r1) (contQH G n dst l fs t ls h r2) := (rfl)
theorem contQH_ob : contQH G n dst l fs t ls h (.ob p r) = obS p (contQH G n dst l fs t ls h r) := (rfl)
theorem guard_b : guard G n dst op j want l fs t ls h (.s (.b q)) = cond q
      (cond want (run G n (.gi (⟨dst, op, none⟩ :: l) :: fs) (t.set j (.s (.b true))) ls h) (run G n (.gi l :: fs) (putD (t.set j (.s (.b true))) dst (.tup [])) ls h))
      (cond want (run G n (.gi l :: fs) (putD (t.set j (.s (.b false))) dst (.tup [])) ls h) (run G n (.gi (⟨dst, op, none⟩ :: l) :: fs) (t.set j (.s (.b false))) ls h)) := (rfl)
theorem guard_t : guard G n dst op j want l fs t ls h (.tup []) = run G n (.gi l :: fs) (putD t dst (.tup [])) ls h := (rfl)
theorem guardQ_b : guardQ G n dst op j want l fs t ls h (.s (.b q)) = cond q
      (cond want (run G n (.qgi (⟨dst, op, none⟩ :: l) :: fs) (t.set j (.s (.b true))) ls h) (run G n (.qgi l :: fs) (putD (t.set j (.s (.b true))) dst (.tup [])) ls h))
      (cond want (run G n (.qgi l :: fs) (putD (t.set j (.s (.b false))) dst (.tup [])) ls h) (run G n (.qgi (⟨dst, op, none⟩ :: l) :: fs) (t.set j (.s (.b false))) ls h)) := (rfl)
theorem guardQ_t : guardQ G n dst op j want l fs t ls h (.tup []) = run G n (.qgi l :: fs) (putD t dst (.tup [])) ls h := (rfl)
theorem condV_b : condV G n a b fs t ls h (.s (.b q)) = cond q (run G n (.c a :: fs) t ls h) (run G n (.c b :: fs) t ls h) := (rfl)
theorem exitV_some : exitV G n t ls h (some fs') = run G n fs' t ls h := (rfl)
theorem cont_all {f' : Nat → Res} : cont G n dst l fs t ls h (.all e f') = .all e fun c => contG G n dst l fs t ls h (f' c) := (rfl)
theorem contG_all {f' : Nat → Res} : contG G n dst l fs t ls h (.all e f') = .all e fun c => contG G n dst l fs t ls h (f' c) := (rfl)
theorem into_all {f' : Nat → Res} : (Res.all e f').into ls = .all e fun c => (f' c).into ls := (rfl)
theorem unlend_all {n m : Nat} {f' : Nat → Res} : (Res.all e f').unlend n m = .all e fun c => (f' c).unlend n m := (rfl)
theorem into_ok : (Res.ok v ls' h').into ls = .ok v ls h' := (rfl)
theorem into_ob : (Res.ob p r).into ls = .ob p (r.into ls) := (rfl)
theorem into_br : (Res.br q r1 r2).into ls = .br q (r1.into ls) (r2.into ls) := (rfl)
theorem unlend_ok {n m : Nat} : (Res.ok v ls' h').unlend n m = .ob (n + m ≤ h'.length ∧ clean n (h'.take n) = true) (.ok (v.ren (R.unlend n)) ((h'.drop n).map (Blk.ren (R.unlend n))) (h'.take n)) := (rfl)
theorem unlend_ob {n m : Nat} : (Res.ob p r).unlend n m = .ob p (r.unlend n m) := (rfl)
theorem unlend_br {n m : Nat} : (Res.br q r1 r2).unlend n m = .br q (r1.unlend n m) (r2.unlend n m) := (rfl)
theorem run_zero : run G 0 fs t ls h = .more fs t ls h := (rfl)
theorem run_nil : run G (n + 1) [] t ls h = .done .nrm t ls h := (rfl)
theorem run_blk : run G (n + 1) (.blk id :: fs) t ls h = run G n fs t ls h := (rfl)
theorem run_lp {X : St → Prop} : run G (n + 1) (.lp X :: fs) t ls h = .lp X t ls h := (rfl)
theorem run_gi0 : run G (n + 1) (.gi [] :: fs) t ls h = run G n fs t ls h := (rfl)
theorem run_gi : run G (n + 1) (.gi (⟨dst, op, none⟩ :: l) :: fs) t ls h = cont G n dst l fs t ls h (istep op t ls h) := (rfl)
theorem run_gig : run G (n + 1) (.gi (⟨dst, op, some (j, want)⟩ :: l) :: fs) t ls h = guard G n dst op j want l fs t ls h (tg t[j]?) := by
  rw [← getD_tg]; rfl
theorem run_q0 : run G (n + 1) (.qgi [] :: fs) t ls h = run G n fs t ls h := (rfl)
theorem run_q : run G (n + 1) (.qgi (⟨dst, op, none⟩ :: l) :: fs) t ls h = contQ G n dst op l fs t ls h (istep op t ls h) := (rfl)
theorem run_qg : run G (n + 1) (.qgi (⟨dst, op, some (j, want)⟩ :: l) :: fs) t ls h = guardQ G n dst op j want l fs t ls h (tg t[j]?) := by
  rw [← getD_tg]; rfl
theorem run_skip : run G (n + 1) (.c .skip :: fs) t ls h = run G n fs t ls h := (rfl)
theorem run_je : run G (n + 1) (.je :: fs) t ls h = .leaf fs t ls h := (rfl)
theorem run_reg : run G (n + 1) (.c (.reg l) :: fs) t ls h = resume (run G n) (run G n (.gi l :: .je :: fs) t ls h) := (rfl)
theorem run_drt : run G (n + 1) (.c (.drt j l) :: fs) t ls h = resume (run G n) (run G n (.gi l :: .je :: fs) t ls h) := (rfl)
theorem run_drq : run G (n + 1) (.c (.drq l) :: fs) t ls h = resume (run G n) (run G n (.qgi l :: .je :: fs) t ls h) := (rfl)
theorem run_drm {l : List (Bool × GI)} : run G (n + 1) (.c (.drm l) :: fs) t ls h = resume (run G n) (run G n (frames l (.je :: fs)) t ls h) := (rfl)
theorem frames_nil : frames [] fs = fs := (rfl)
theorem frames_q {x : GI} {l : List (Bool × GI)} : frames ((true, x) :: l) fs = .qgi [x] :: frames l fs := (rfl)
theorem frames_g {x : GI} {l : List (Bool × GI)} : frames ((false, x) :: l) fs = .gi [x] :: frames l fs := (rfl)
theorem run_seq : run G (n + 1) (.c (.seq a b) :: fs) t ls h = run G n (.c a :: .c b :: fs) t ls h := (rfl)
theorem run_cond : run G (n + 1) (.c (.cond x a b) :: fs) t ls h = condV G n a b fs t ls h (ev t x) := (rfl)
theorem run_block : run G (n + 1) (.c (.block id c) :: fs) t ls h = run G n (.c c :: .blk id :: fs) t ls h := (rfl)
theorem run_loop : run G (n + 1) (.c (.loop c) :: fs) t ls h = .loop c fs t ls h := (rfl)
theorem run_exit : run G (n + 1) (.c (.exit id) :: fs) t ls h = exitV G n t ls h (popTo id fs) := (rfl)
theorem run_ret : run G (n + 1) (.c .ret :: fs) t ls h = .done .ret t ls h := (rfl)

variable {Γ : FuncId → FSpec} {n0 : Nat} {K : Ex → St → Prop} {s : Stop}
/-- Two ways, joined: temporary by temporary. -/
def zipC (q : Bool) (t1 t2 : List V) : List V := cond q t1 t2
def jv (q : Bool) (v1 v2 : V) : V := cond q v1 v2
theorem zipC_nil : zipC q [] [] = [] := by cases q <;> rfl
theorem zipC_cons {v1 v2 : V} {l1 l2 : List V} : zipC q (v1 :: l1) (v2 :: l2) = jv q v1 v2 :: zipC q l1 l2 := by cases q <;> rfl
theorem zipC_self {l : List V} : zipC q l l = l := by cases q <;> rfl
theorem jv_self : jv q v v = v := by cases q <;> rfl
theorem jv_b {x y : Bool} : jv q (.s (.b x)) (.s (.b y)) = .s (.b (cond q x y)) := by cases q <;> rfl
theorem jv_i {k : IntKind} {x y : Int} : jv q (.s (.i k x)) (.s (.i k y)) = .s (.i k (cond q x y)) := by cases q <;> rfl
theorem cond_ff {x : Bool} : cond q x false = (q && x) := by cases q <;> cases x <;> rfl
theorem cond_tt {x : Bool} : cond q true x = (q || x) := by cases q <;> cases x <;> rfl
theorem cond_ft {x : Bool} : cond q false x = (!q && x) := by cases q <;> cases x <;> rfl
theorem cond_tf {x : Bool} : cond q x true = (!q || x) := by cases q <;> cases x <;> rfl
theorem cond_same {α : Type} {x : α} : cond q x x = x := by cases q <;> rfl
theorem join_leaf {t1 t2 : List V} : cond q (Stop.leaf fs t1 ls h) (Stop.leaf fs t2 ls h) = .leaf fs (zipC q t1 t2) ls h := by cases q <;> rfl
theorem join_ob1 {s1 s2 : Stop} : cond q (obS p s1) s2 = obS (q = true → p) (cond q s1 s2) := by
  cases q
  · simp [obS]
  · have : (true = true → p) = p := propext ⟨fun h => h rfl, fun h _ => h⟩
    rw [this]; rfl
theorem join_ob2 {s1 s2 : Stop} : cond q s1 (obS p s2) = obS (q = false → p) (cond q s1 s2) := by
  cases q
  · have : (false = false → p) = p := propext ⟨fun h => h rfl, fun h _ => h⟩
    rw [this]; rfl
  · simp [obS]
theorem obS_true {s : Stop} : obS True s = s := by simp [obS]
theorem obS_false {s : Stop} : obS False s = .bad := by simp [obS]
theorem resume_leaf {k : List Fr → List V → List Blk → List Blk → Stop} : resume k (.leaf fs t ls h) = k fs t ls h := (rfl)
theorem resume_all {k : List Fr → List V → List Blk → List Blk → Stop} {f : Nat → Stop} : resume k (.all n f) = .all n fun c => resume k (f c) := (rfl)
theorem resume_bad {k : List Fr → List V → List Blk → List Blk → Stop} : resume k .bad = .bad := (rfl)
theorem resume_res {k : List Fr → List V → List Blk → List Blk → Stop} : resume k (.res r dst fs t ls h) = .res r dst fs t ls h := (rfl)
theorem resume_cond {k : List Fr → List V → List Blk → List Blk → Stop} {s1 s2 : Stop} : resume k (cond q s1 s2) = cond q (resume k s1) (resume k s2) := by cases q <;> rfl
theorem resume_ob {k : List Fr → List V → List Blk → List Blk → Stop} {s1 : Stop} : resume k (obS p s1) = obS p (resume k s1) := by
  unfold obS
  by_cases h : p <;> simp [h, resume]
theorem holds_done {e : Ex} : holds Γ n0 K (.done e t ls h) = K e ⟨t, ls, h⟩ := (rfl)
theorem holds_all {f : Nat → Stop} : holds Γ n0 K (.all n f) = ∀ c, n ≤ c → holds Γ n0 K (f c) := (rfl)
theorem holds_lp {X : St → Prop} : holds Γ n0 K (.lp X t ls h) = X ⟨t, ls, h⟩ := (rfl)
theorem holds_bad : holds Γ n0 K .bad = False := (rfl)
theorem holds_cond_eq {a b : Stop} : holds Γ n0 K (cond q a b) = ((q = true → holds Γ n0 K a) ∧ (q = false → holds Γ n0 K b)) :=
  propext ⟨holds_cond, fun h => cond_holds h.1 h.2⟩

def leaveB (v : V) (ls h : List Blk) (K : V → List Blk → Prop) : Bool → Prop
  | true => K v h
  | false => ∃ keep : List Nat, keep.Nodup ∧ v.kept keep = true ∧ match getAll ls keep with
      | some l => ob (l.all (fun B => decide (B.st = .rw) && B.cells.all (S.kept keep)) = true) (K (v.ren (R.prom h.length keep)) (h ++ l.map (Blk.ren (R.prom h.length keep))))
      | none => False
def finO (K : V → List Blk → Prop) (ls h : List Blk) : Option (List C) → Prop
  | some l => leave (result l) ls h K
  | none => False
theorem leave_eq {K : V → List Blk → Prop} : leave v ls h K = (v.known = true ∧ leaveB v ls h K v.noL) := by
  unfold leave ob
  cases v.noL <;> rfl
theorem fin_ret {rs : List RV} {K : V → List Blk → Prop} : finP rs K .ret ⟨t, ls, h⟩ = finO K ls h (rvals ⟨t, ls, h⟩ rs) := by
  unfold finP finO; rfl
theorem fin_nrm {rs : List RV} {K : V → List Blk → Prop} : finP rs K .nrm ⟨t, ls, h⟩ = finO K ls h (rvals ⟨t, ls, h⟩ rs) := by
  unfold finP finO; rfl
theorem finO_some {K : V → List Blk → Prop} {l : List C} : finO K ls h (some l) = leave (result l) ls h K := (rfl)
theorem leaveB_true {K : V → List Blk → Prop} : leaveB v ls h K true = K v h := (rfl)

theorem spec_ok {K : V → List Blk → Prop} : (Res.ok v ls h).spec K = K v h := (rfl)
theorem spec_ob {K : V → List Blk → Prop} : (Res.ob p r).spec K = (p ∧ r.spec K) := (rfl)
theorem spec_br {K : V → List Blk → Prop} : (Res.br q r1 r2).spec K = ((q = true → r1.spec K) ∧ (q = false → r2.spec K)) := (rfl)
theorem spec_all {K : V → List Blk → Prop} {f' : Nat → Res} : (Res.all e f').spec K = ∀ c, e ≤ c → (f' c).spec K := (rfl)
theorem spec_bad {K : V → List Blk → Prop} : Res.bad.spec K = False := (rfl)
end eqs

theorem holds_loop {Γ : FuncId → FSpec} {n0 : Nat} {K : Ex → St → Prop} {c : DC} {fs : List Fr} {t : List V} {ls h : List Blk} : holds Γ n0 K (.loop c fs t ls h) = swp Γ n0 K (.c (.loop c) :: fs) ⟨t, ls, h⟩ := (rfl)

/-- The code behind so many statements. -/
def DC.after : Nat → DC → DC
  | 0, d => d
  | n + 1, .seq _ b => DC.after n b
  | _ + 1, d => d

/-- A sequence, cut: what holds behind its first part is what the second one asks for. -/
theorem seq_cut {Γ : FuncId → FSpec} {n0 : Nat} {K : Ex → St → Prop} {a b : DC} {fs : List Fr} {s : St} (hh : swp Γ n0 K (.c a :: .lp (fun s => swp Γ n0 K (.c b :: fs) s) :: fs) s) : swp Γ n0 K (.c (.seq a b) :: fs) s := by
  simp only [swp] at hh ⊢
  obtain ⟨s', hW, hh⟩ := hh
  refine ⟨s', hW, ?_⟩
  simp only [dwp]
  refine cast ?_ hh
  congr 1
  funext e s
  cases e <;> simp only [swp, swx]

theorem holds_more {Γ : FuncId → FSpec} {n0 : Nat} {K : Ex → St → Prop} {fs : List Fr} {t : List V} {ls h : List Blk} : holds Γ n0 K (.more fs t ls h) = swp Γ n0 K fs ⟨t, ls, h⟩ := (rfl)

/-! ### cuts behind so many statements -/
theorem swp_seq {Γ : FuncId → FSpec} {n0 : Nat} {K : Ex → St → Prop} {a b : DC} {fs : List Fr} {s : St} : swp Γ n0 K (.c (.seq a b) :: fs) s = swp Γ n0 K (.c a :: .c b :: fs) s := by
  simp only [swp]
  congr 1
  funext s'
  congr 1
  simp only [dwp]
  congr 1
  funext e s
  cases e <;> simp only [swx]

/-- Two stacks that ask for the same. -/
def Alike (Γ : FuncId → FSpec) (n0 : Nat) (K : Ex → St → Prop) (F F' : List Fr) : Prop := (∀ s, swp Γ n0 K F s = swp Γ n0 K F' s) ∧ ∀ id s, swx Γ n0 K F id s = swx Γ n0 K F' id s

theorem Alike.c {Γ : FuncId → FSpec} {n0 : Nat} {K : Ex → St → Prop} {F F' : List Fr} (h : Alike Γ n0 K F F') (d : DC) : Alike Γ n0 K (.c d :: F) (.c d :: F') := by
  refine ⟨fun s => ?_, fun id s => by simp only [swx]; exact h.2 id s⟩
  simp only [swp]
  congr 1
  funext s'
  congr 1
  congr 1
  funext e s
  cases e <;> simp only [h.1, h.2]

/-- The first so many statements, then what the rest asks for. -/
def cutFs (Γ : FuncId → FSpec) (n0 : Nat) (K : Ex → St → Prop) : Nat → DC → List Fr → List Fr
  | n + 1, .seq a b, fs => .c a :: cutFs Γ n0 K n b fs
  | _, d, fs => .lp (fun s => swp Γ n0 K (.c d :: fs) s) :: fs

theorem cutFs_alike {Γ : FuncId → FSpec} {n0 : Nat} {K : Ex → St → Prop} : ∀ (n : Nat) (d : DC) (fs : List Fr), Alike Γ n0 K (cutFs Γ n0 K n d fs) (.c d :: fs) := by
  have base : ∀ (d : DC) (fs : List Fr), Alike Γ n0 K (.lp (fun s => swp Γ n0 K (.c d :: fs) s) :: fs) (.c d :: fs) := fun d fs => ⟨fun s => by simp only [swp], fun id s => by simp only [swx]⟩
  intro n
  induction n with
  | zero => intro d fs; unfold cutFs; exact base d fs
  | succ n ih =>
    intro d fs
    cases d
    case seq a b =>
      have h := (ih b fs).c a
      exact ⟨fun s => by rw [swp_seq]; exact h.1 s, fun id s => by rw [show cutFs Γ n0 K (n + 1) (.seq a b) fs = .c a :: cutFs Γ n0 K n b fs from rfl, h.2 id s]; simp only [swx]⟩
    all_goals exact base _ fs

theorem cut_at {Γ : FuncId → FSpec} {n0 : Nat} {K : Ex → St → Prop} (n : Nat) {d : DC} {fs : List Fr} {s : St} (h : swp Γ n0 K (cutFs Γ n0 K n d fs) s) : swp Γ n0 K (.c d :: fs) s := by
  rw [← (cutFs_alike n d fs).1 s]; exact h

attribute [irreducible] run holds swp swx

end Go.D

/- For use: loops by recursion on data, arrays of structs, tables of specs. -/
namespace Go.D
set_option linter.all false

/-! ### small facts -/
theorem known_nil : known [] = true := (rfl)
theorem known_cons {x : S} {xs : List S} : known (x :: xs) = (V.known (.s x) && known xs) := by
  simp only [known, List.all_cons]
  cases x <;> rfl

theorem put_nil {xs : List S} {o : Nat} : put xs o [] = xs := (rfl)
theorem put_succ {x : S} : ∀ {vs xs : List S} {o : Nat}, put (x :: xs) (o + 1) vs = x :: put xs o vs
  | [], _, _ => rfl
  | v :: vs, xs, o => by
    simp only [put, List.set_cons_succ]
    exact put_succ
theorem put_zero {x v : S} {vs xs : List S} : put (x :: xs) 0 (v :: vs) = v :: put xs 0 vs := by
  simp only [put, List.set_cons_zero]
  exact put_succ
theorem sub_succ {x : S} {xs : List S} {o n : Nat} : sub (x :: xs) (o + 1) n = sub xs o n := (rfl)
theorem sub_zero {x : S} {xs : List S} {n : Nat} : sub (x :: xs) 0 (n + 1) = x :: sub xs 0 n := (rfl)
theorem sub_none {xs : List S} : sub xs 0 0 = [] := (rfl)
theorem wrap64 {n : Int} (h1 : -9223372036854775808 ≤ n) (h2 : n < 9223372036854775808) : IntKind.i64.wrap n = n := by rw [IntKind.wrap_i64]; omega

/-- Fewer temporaries known. -/
theorem leT_refl : ∀ t : List V, leT t t
  | [] => trivial
  | _ :: t => ⟨.inr rfl, leT_refl t⟩

theorem Wk.cutJ {n0 : Nat} {t t' : List V} {ls ls' h : List Blk} (junk : List Blk) (e : ls' = ls ++ junk) (ht : leT t' t) (hb : t'.all (V.below ls.length) = true) (hl : ls.all (fun B => B.cells.all (S.below ls.length)) = true) : Wk n0 ⟨t, ls', h⟩ ⟨t', ls, h⟩ := by
  subst e; exact .cut junk ht hb hl

/-- The first so many blocks are kept. -/
theorem Wk.keep {n0 : Nat} {t t' : List V} {ls ls' h h' : List Blk} (n : Nat) (e : ls'.take n = ls) (eh : h = h') (ht : leT t' t) (hb : t'.all (V.below ls.length) = true) (hl : ls.all (fun B => B.cells.all (S.below ls.length)) = true) : Wk n0 ⟨t, ls', h⟩ ⟨t', ls, h'⟩ := by
  subst eh
  exact Wk.cutJ (ls'.drop n) (by rw [← e, List.take_append_drop]) ht hb hl
theorem Wk.same {n0 : Nat} {t t' : List V} {ls ls' h h' : List Blk} (e : ls' = ls) (eh : h = h') (ht : leT t' t) : Wk n0 ⟨t, ls', h⟩ ⟨t', ls, h'⟩ := by
  subst e; subst eh
  exact .less ht

theorem app_get0 {α : Type} {h r : List α} : (h ++ r)[h.length]? = r[0]? := by
  rw [List.getElem?_append_right (Nat.le_refl _), Nat.sub_self]
theorem app_getn {α : Type} {h r : List α} {n : Nat} : (h ++ r)[h.length + n]? = r[n]? := by
  rw [List.getElem?_append_right (by omega), Nat.add_sub_cancel_left]
theorem app_set0 {α : Type} {h r : List α} {B : α} : (h ++ r).set h.length B = h ++ r.set 0 B := by
  rw [List.set_append_right _ _ (Nat.le_refl _), Nat.sub_self]
theorem app_setn {α : Type} {h r : List α} {n : Nat} {B : α} : (h ++ r).set (h.length + n) B = h ++ r.set n B := by
  rw [List.set_append_right _ _ (by omega), Nat.add_sub_cancel_left]
/-! ### shared blocks that nobody needs any more -/
theorem S.ren_id (s : S) : s.ren id = s := by
  cases s with
  | fn f cs => simp [S.ren]
  | _ => rfl
theorem C.ren_id (c : C) : c.ren id = c := by
  cases c with
  | s x => simp only [C.ren, S.ren_id]
  | agg xs => simp only [C.ren]; congr 1; exact (List.map_congr_left fun x _ => S.ren_id x).trans (List.map_id _)
theorem V.ren_id (v : V) : v.ren id = v := by
  cases v with
  | s x => simp only [V.ren, S.ren_id]
  | agg xs => simp only [V.ren]; congr 1; exact (List.map_congr_left fun x _ => S.ren_id x).trans (List.map_id _)
  | tup cs => simp only [V.ren]; congr 1; exact (List.map_congr_left fun x _ => C.ren_id x).trans (List.map_id _)
theorem Blk.ren_id (B : Blk) : B.ren id = B := by
  obtain ⟨st, cells, room⟩ := B
  simp only [Blk.ren]; congr 1; exact (List.map_congr_left fun x _ => S.ren_id x).trans (List.map_id _)

theorem leT_at : ∀ {t' t : List V}, leT t' t → t'.length = t.length ∧ ∀ (i : Nat) (v : V), t'[i]? = some v → v = .s .u ∨ t[i]? = some v
  | [], [], _ => ⟨rfl, fun i v h => by simp at h⟩
  | v' :: t', v :: t, h => by
    obtain ⟨h1, h2⟩ := leT_at h.2
    refine ⟨by simp [h1], fun i u hu => ?_⟩
    cases i with
    | zero =>
      simp only [List.getElem?_cons_zero, Option.some.injEq] at hu ⊢
      subst hu
      rcases h.1 with e | e
      · exact .inl e
      · exact .inr e.symm
    | succ i => simpa using h2 i u (by simpa using hu)
  | [], _ :: _, h => h.elim
  | _ :: _, [], h => h.elim

theorem Wk.keepH {n0 : Nat} {t t' : List V} {ls h h' : List Blk} (n : Nat) (e : h'.take n = h) (hn : n0 ≤ h.length) (ht : leT t' t) (hv : t'.all (V.val h.length ls.length) = true) (hh : clean h.length h = true) (hl : ls.all (fun B => vals h.length ls.length B.cells) = true) :
    Wk n0 ⟨t, ls, h'⟩ ⟨t', ls, h⟩ := by
  obtain ⟨h1, h2⟩ := leT_at ht
  refine .by_ id ⟨hn, fun _ _ => rfl, fun k hk _ => .inl ⟨k, hk, rfl⟩, fun r r' _ _ e => e, fun r B' hb => ?_, fun B hB => ?_, fun B hB => ?_, h1, fun i v' hi => ?_⟩
  · rw [Blk.ren_id]
    cases r with
    | g k =>
      simp only [blk, id] at hb ⊢
      rw [← e, List.getElem?_take] at hb
      split at hb
      · exact hb
      · cases hb
    | l k => exact hb
  · simp only [clean, List.all_eq_true] at hh; exact hh B hB
  · simp only [List.all_eq_true] at hl; exact hl B hB
  · refine ⟨?_, ?_⟩
    · simp only [List.all_eq_true] at hv; exact hv v' (List.mem_of_getElem? hi)
    · rw [V.ren_id]; exact h2 i v' hi

/-- The first so many own blocks are forgotten. -/
def R.shift (d : Nat) : R → R
  | .g k => .g k
  | .l k => .l (d + k)

theorem V.ren_u' {ρ : R → R} {v : V} (h : v.ren ρ = .s .u) : v = .s .u := by
  cases v with
  | s x => cases x <;> simp [V.ren, S.ren] at h ⊢
  | agg xs => simp [V.ren] at h
  | tup cs => simp [V.ren] at h

theorem Wk.shift {n0 : Nat} {t t' : List V} {ls ls' h : List Blk} (d : Nat) (hls : ls'.map (Blk.ren (R.shift d)) = ls.drop d) (hn : n0 ≤ h.length) (ht : leT (t'.map (V.ren (R.shift d))) t) (hv : t'.all (V.val h.length ls'.length) = true)
    (hh : clean h.length h = true) (hl : ls'.all (fun B => vals h.length ls'.length B.cells) = true) (hg : h.map (Blk.ren (R.shift d)) = h) : Wk n0 ⟨t, ls, h⟩ ⟨t', ls', h⟩ := by
  obtain ⟨h1, h2⟩ := leT_at ht
  refine .by_ (R.shift d) ⟨hn, fun _ _ => rfl, fun k hk _ => .inl ⟨k, hk, rfl⟩, fun r r' _ _ e => ?_, fun r B' hb => ?_, fun B hB => ?_, fun B hB => ?_, by simpa using h1, fun i v' hi => ?_⟩
  · cases r <;> cases r' <;> simp only [R.shift, R.g.injEq, R.l.injEq, reduceCtorEq] at e ⊢ <;> omega
  · cases r with
    | g k =>
      simp only [blk, R.shift] at hb ⊢
      have := congrArg (fun l => l[k]?) hg
      simp only [List.getElem?_map, hb, Option.map_some] at this
      rw [hb, this]
    | l k =>
      simp only [blk, R.shift] at hb ⊢
      have := congrArg (fun l => l[k]?) hls
      simp only [List.getElem?_map, hb, Option.map_some, List.getElem?_drop] at this
      exact this.symm
  · simp only [clean, List.all_eq_true] at hh; exact hh B hB
  · simp only [List.all_eq_true] at hl; exact hl B hB
  · refine ⟨?_, ?_⟩
    · simp only [List.all_eq_true] at hv; exact hv v' (List.mem_of_getElem? hi)
    · rcases h2 i (v'.ren (R.shift d)) (by rw [List.getElem?_map, hi]; rfl) with h3 | h3
      · exact .inl (V.ren_u' h3)
      · exact .inr h3

/-- Of the function's own blocks those of a list are kept, in its order. -/
def R.pick (is : List Nat) : R → R
  | .g k => .g k
  | .l k => .l (is.getD k 0)
theorem R.pick_g {is : List Nat} {k : Nat} : R.pick is (.g k) = .g k := by rfl
theorem R.pick_0 {i : Nat} {is : List Nat} : R.pick (i :: is) (.l 0) = .l i := by rfl
theorem R.pick_s {i k : Nat} {is : List Nat} : R.pick (i :: is) (.l (k + 1)) = R.pick is (.l k) := by rfl
theorem Wk.sel {n0 : Nat} {t t' : List V} {ls ls' h : List Blk} (is : List Nat) (hnd : is.Nodup) (hn : n0 ≤ h.length) (hls : ls'.map (fun B => some (B.ren (R.pick is))) = is.map (fun i => ls[i]?)) (ht : leT (t'.map (V.ren (R.pick is))) t) (hv : t'.all (V.val h.length ls'.length) = true)
    (hl : ls'.all (fun B => vals h.length ls'.length B.cells) = true) (hh : clean h.length h = true) (hg : h.map (Blk.ren (R.pick is)) = h) : Wk n0 ⟨t, ls, h⟩ ⟨t', ls', h⟩ := by
  obtain ⟨h1, h2⟩ := leT_at ht
  have hlen : ls'.length = is.length := by simpa using congrArg List.length hls
  refine .by_ (R.pick is) ⟨hn, fun _ _ => rfl, fun k hk _ => .inl ⟨k, hk, rfl⟩, fun r r' hr hr' e => ?_, fun r B' hb => ?_, fun B hB => ?_, fun B hB => ?_, by simpa using h1, fun i v' hi => ?_⟩
  · cases r with
    | g k => cases r' with
      | g k' => simpa [R.pick] using e
      | l k' => simp [R.pick] at e
    | l k => cases r' with
      | g k' => simp [R.pick] at e
      | l k' =>
        simp only [R.val, decide_eq_true_eq] at hr hr'
        simp only [R.pick, R.l.injEq, List.getD_eq_getElem?_getD] at e
        rw [List.getElem?_eq_getElem (by omega), List.getElem?_eq_getElem (by omega)] at e
        simp only [Option.getD_some] at e
        rw [(List.getElem_inj hnd).1 e]
  · cases r with
    | g k =>
      simp only [blk, R.pick] at hb ⊢
      have := congrArg (fun l => l[k]?) hg
      simp only [List.getElem?_map, hb, Option.map_some] at this
      rw [hb, this]
    | l k =>
      simp only [blk] at hb ⊢
      have hk : k < is.length := by rw [← hlen]; exact (List.getElem?_eq_some_iff.1 hb).1
      have := congrArg (fun l => l[k]?) hls
      simp only [List.getElem?_map, hb, Option.map_some, List.getElem?_eq_getElem hk, Option.some.injEq] at this
      simp only [R.pick, List.getD_eq_getElem?_getD, List.getElem?_eq_getElem hk, Option.getD_some]
      exact this.symm
  · simp only [clean, List.all_eq_true] at hh; exact hh B hB
  · simp only [List.all_eq_true] at hl; exact hl B hB
  · refine ⟨?_, ?_⟩
    · simp only [List.all_eq_true] at hv; exact hv v' (List.mem_of_getElem? hi)
    · rcases h2 i (v'.ren (R.pick is)) (by rw [List.getElem?_map, hi]; rfl) with h3 | h3
      · exact .inl (V.ren_u' h3)
      · exact .inr h3

/-- Shared blocks name no own ones. -/
theorem S.ren_clean {ρ : R → R} {n : Nat} (hρ : ∀ k, ρ (.g k) = .g k) {s : S} (h : s.val n 0 = true) : s.ren ρ = s := by
  have hr : ∀ r : R, r.val n 0 = true → ρ r = r := fun r hr => by
    cases r with
    | g k => exact hρ k
    | l k => simp [R.val] at hr
  cases s with
  | p r o => simp only [S.ren]; rw [hr r h]
  | sl r o a c => simp only [S.ren]; rw [hr r h]
  | fn f cs =>
    simp only [S.ren, S.fn.injEq, true_and]
    simp only [S.val, List.all_eq_true] at h
    refine (List.map_congr_left fun x hx => ?_).trans (List.map_id _)
    rw [hr x.1 (h x hx)]; rfl
  | _ => rfl
theorem clean_ren {n : Nat} {h : List Blk} (hc : clean n h = true) (d : Nat) : h.map (Blk.ren (R.shift d)) = h := by
  simp only [clean, List.all_eq_true] at hc
  refine (List.map_congr_left fun B hB => ?_).trans (List.map_id _)
  have := hc B hB
  simp only [vals, List.all_eq_true] at this
  obtain ⟨st, cells, room⟩ := B
  simp only [Blk.ren, id]
  congr 1
  exact (List.map_congr_left fun s hs => S.ren_clean (fun _ => rfl) (this s hs)).trans (List.map_id _)

theorem clean_pick {n : Nat} {h : List Blk} (hc : clean n h = true) (is : List Nat) : h.map (Blk.ren (R.pick is)) = h := by
  simp only [clean, List.all_eq_true] at hc
  refine (List.map_congr_left fun B hB => ?_).trans (List.map_id _)
  have := hc B hB
  simp only [vals, List.all_eq_true] at this
  obtain ⟨st, cells, room⟩ := B
  simp only [Blk.ren, id]
  congr 1
  exact (List.map_congr_left fun s hs => S.ren_clean (fun _ => rfl) (this s hs)).trans (List.map_id _)

/-- A spec up to shared blocks that are new and forgotten. -/
def Cut (n : Nat) (K : V → List Blk → Prop) : V → List Blk → Prop := fun v h' => ∃ h1 junk, h' = h1 ++ junk ∧ n ≤ h1.length ∧ clean h1.length h1 = true ∧ v.val h1.length 0 = true ∧ K v h1

theorem Inv.cutH {σ0 : Sg} {h0 : List Blk} {w0 : World} {σ : Sg} {h junk : List Blk} {w : World} (H : Inv σ0 h0 w0 σ (h ++ junk) [] w) (hn : h0.length ≤ h.length) (hh : clean h.length h = true) : Inv σ0 h0 w0 σ h [] w := by
  have hb : ∀ r B, blk h [] r = some B → blk (h ++ junk) [] r = some B := fun r B hr => by
    cases r with
    | g k =>
      simp only [blk] at hr ⊢
      rw [List.getElem?_append_left (List.getElem?_eq_some_iff.1 hr).1]; exact hr
    | l k => exact hr
  refine ⟨⟨fun r B hr => H.sim.ok r B (hb r B hr), fun r r' B B' h1 h2 => H.sim.sep r r' B B' (hb r B h1) (hb r' B' h2), fun B hB => ?_, fun B hB => by cases hB⟩, H.kept, hn, H.old, fun r B hr => H.mine r B (hb r B hr), fun k h1 h2 => H.new k h1 (by simp; omega), fun k B0 B h1 h2 => H.live k B0 B h1 ?_⟩
  · simp only [clean, List.all_eq_true] at hh; exact hh B hB
  · rw [List.getElem?_append_left (List.getElem?_eq_some_iff.1 h2).1]; exact h2

theorem Snd.cut {P : Program} {f : FuncId} {S S' : FSpec} (hS : Snd P f S) (hh : ∀ args h K, clean h.length h = true → S' args h K → S args h (Cut h.length K)) : Snd P f S' := fun σ h w args K hs hv hk hK => by
  have hc : clean h.length h = true := by
    simp only [clean, List.all_eq_true]
    exact hs.gval
  refine (hS σ h w args _ hs hv hk (hh args h K hc hK)).mono ?_
  rintro e w' ⟨v, h', σ', e1, e2, e3, e4, h1, junk, rfl, k1, k2, k3, k4⟩
  exact ⟨v, h1, σ', e1, e2, k3, e4.cutH k1 k2, k4⟩

theorem app_getl {α : Type} {h X : List α} {k : Nat} (hk : k < h.length) : (h ++ X)[k]? = h[k]? := List.getElem?_append_left hk
theorem app_setl {α : Type} {h X : List α} {k : Nat} {B : α} (hk : k < h.length) : (h ++ X).set k B = h.set k B ++ X := List.set_append_left _ _ hk
theorem take_app {α : Type} {h X : List α} {n : Nat} (e : h.length = n) : (h ++ X).take n = h := by subst e; exact List.take_left
theorem drop_app {α : Type} {h X : List α} {n : Nat} (e : h.length = n) : (h ++ X).drop n = X := by subst e; exact List.drop_left
theorem app_taken {α : Type} {h r : List α} {n : Nat} : (h ++ r).take (h.length + n) = h ++ r.take n := List.take_length_add_append n
theorem app_dropn {α : Type} {h r : List α} {n : Nat} : (h ++ r).drop (h.length + n) = r.drop n := by
  rw [← List.drop_drop, List.drop_left]
theorem app_take0 {α : Type} {h r : List α} : (h ++ r).take h.length = h := List.take_left
theorem app_drop0 {α : Type} {h r : List α} : (h ++ r).drop h.length = r := List.drop_left
theorem clean_app {n m : Nat} {h X : List Blk} (hc : clean n h = true) (hn : n ≤ m) (hX : clean m X = true) : clean m (h ++ X) = true := by
  simp only [clean, List.all_eq_true, List.mem_append] at *
  rintro x (h1 | h1)
  · exact vals_mono hn (Nat.le_refl _) (hc x h1)
  · exact hX x h1
theorem clean_set {n k : Nat} {h : List Blk} {B : Blk} (hc : clean n h = true) (hB : vals n 0 B.cells = true) : clean n (h.set k B) = true := by
  simp only [clean, List.all_eq_true] at *
  intro x hx
  rcases List.mem_or_eq_of_mem_set hx with h1 | h1
  · exact hc x h1
  · subst h1; exact hB
theorem set_hit {h : List Blk} {k : Nat} {B B' : Blk} (hk : h[k]? = some B) : (h.set k B')[k]? = some B' := by
  obtain ⟨hlt, _⟩ := List.getElem?_eq_some_iff.1 hk
  simp [hlt]
theorem set_miss {h : List Blk} {k j : Nat} {B' : Blk} (e : k ≠ j) : (h.set k B')[j]? = h[j]? := by simp [e]
theorem set_self {h : List Blk} {k : Nat} {B : Blk} (hk : h[k]? = some B) : h.set k B = h := by
  obtain ⟨hlt, e⟩ := List.getElem?_eq_some_iff.1 hk
  subst e; simp

/-! ### equations that are used as rewrites, each as a proof of its own -/
theorem lenR_sl {r : R} {o n c : Nat} {ls h : List Blk} : lenR (.s (.sl r o n c)) ls h = .ok (.s (.i .i64 n)) ls h := by rfl
theorem lenR_ns {ls h : List Blk} : lenR (.s .ns) ls h = .ok (.s (.i .i64 0)) ls h := by rfl
theorem lenR_es {a : Addr} {c : Nat} {ls h : List Blk} : lenR (.s (.es a c)) ls h = .ok (.s (.i .i64 0)) ls h := by rfl
section
universe u
theorem q_all_cons {α : Type u} {a : α} {l : List α} {f : α → Bool} : (a :: l).all f = (f a && l.all f) := by rfl
theorem q_all_nil {α : Type u} {f : α → Bool} : ([] : List α).all f = true := by rfl
theorem q_get0 {α : Type u} {a : α} {l : List α} : (a :: l)[0]? = some a := by rfl
theorem q_getS {α : Type u} {a : α} {i : Nat} {l : List α} : (a :: l)[i + 1]? = l[i]? := by rfl
theorem q_getN {α : Type u} {i : Nat} : ([] : List α)[i]? = none := by rfl
theorem q_len_cons {α : Type u} {a : α} {l : List α} : (a :: l).length = l.length + 1 := by rfl
theorem q_len_nil {α : Type u} : ([] : List α).length = 0 := by rfl
theorem q_cons_app {α : Type u} {a : α} {l m : List α} : (a :: l) ++ m = a :: (l ++ m) := by rfl
theorem q_nil_app {α : Type u} (l : List α) : [] ++ l = l := by rfl
theorem q_cond_t {α : Sort u} (a b : α) : (bif true then a else b) = a := by rfl
theorem q_cond_f {α : Sort u} (a b : α) : (bif false then a else b) = b := by rfl
theorem q_cast {n : Nat} : @Nat.cast Int instNatCastInt (no_index (OfNat.ofNat n)) = OfNat.ofNat n := by rfl
theorem q_ite_t {α : Sort u} (a b : α) : (if True then a else b) = a := by simp
theorem q_ite_f {α : Sort u} (a b : α) : (if False then a else b) = b := by simp
theorem q_add_zero (n : Nat) : n + 0 = n := by rfl
theorem q_ne {α : Sort u} (a b : α) : (a ≠ b) = ¬ a = b := by rfl
theorem q_toNat (n : Nat) : ((n : Int)).toNat = n := by rfl
end

theorem cut_s {Γ : FuncId → FSpec} {n0 : Nat} {K : Ex → St → Prop} {n : Nat} {a b : DC} {fs : List Fr} : cutFs Γ n0 K (n + 1) (.seq a b) fs = .c a :: cutFs Γ n0 K n b fs := (rfl)
theorem cut_0 {Γ : FuncId → FSpec} {n0 : Nat} {K : Ex → St → Prop} {d : DC} {fs : List Fr} : cutFs Γ n0 K 0 d fs = .lp (fun s => swp Γ n0 K (.c d :: fs) s) :: fs := by
  unfold cutFs; rfl

/-! ### loops -/
def killT : List Nat → List V → List V
  | [], t => t
  | i :: is, t => killT is (t.set i (.s .u))
def setT : List (Nat × V) → List V → List V
  | [], t => t
  | (i, v) :: is, t => setT is (t.set i v)


/-- A loop: at each round's head the temporaries of 'dead' are unknown, those of 'upd' are as told, the blocks as told. -/
theorem loop_rule {Γ : FuncId → FSpec} {n0 : Nat} {K : Ex → St → Prop} {c : DC} {fs : List Fr} {t : List V} {ls h : List Blk} {α : Type} (dead : List Nat) (upd : α → List (Nat × V)) (L H : α → List Blk) (I : α → Prop) (μ : α → Nat) (x0 : α)
    (h0 : I x0) (W0 : Wk n0 ⟨t, ls, h⟩ ⟨setT (upd x0) (killT dead t), L x0, H x0⟩)
    (step : ∀ (X : St → Prop) (x : α), I x → (∀ (y : α) (s : St), μ y < μ x → I y → Wk n0 s ⟨setT (upd y) (killT dead t), L y, H y⟩ → X s) → swp Γ n0 K (.c c :: .lp X :: fs) ⟨setT (upd x) (killT dead t), L x, H x⟩) :
    holds Γ n0 K (.loop c fs t ls h) := by
  rw [holds_loop]
  refine swp_loop fun X hX => ?_
  have main : ∀ (n : Nat) (x : α) (s : St), μ x = n → I x → Wk n0 s ⟨setT (upd x) (killT dead t), L x, H x⟩ → X s := by
    intro n
    induction n using Nat.strongRecOn with
    | _ n ih =>
      intro x s hn hx hW
      exact hX s (swp_weak hW (step X x hx fun y s' hlt hy hW' => ih (μ y) (by omega) y s' rfl hy hW'))
  exact main _ x0 _ rfl h0 W0

/-! ### arrays of structs -/
theorem put_eq : ∀ (vs xs : List S) (o : Nat), o + vs.length ≤ xs.length → put xs o vs = xs.take o ++ vs ++ xs.drop (o + vs.length)
  | [], xs, o, _ => by simp [put]
  | v :: vs, xs, o, h => by
    simp only [List.length_cons] at h
    have hlen : (xs.set o v).length = xs.length := by simp
    simp only [put, List.length_cons]
    rw [put_eq vs (xs.set o v) (o + 1) (by rw [hlen]; omega)]
    have e1 : (xs.set o v).take (o + 1) = xs.take o ++ [v] := by
      rw [List.take_succ_eq_append_getElem (by rw [hlen]; omega)]
      simp [List.take_set_of_le]
    have e2 : (xs.set o v).drop (o + 1 + vs.length) = xs.drop (o + (vs.length + 1)) := by
      have : o + (vs.length + 1) = o + 1 + vs.length := by omega
      rw [this, List.drop_set_of_lt (by omega)]
    rw [e1, e2]
    simp

section arrs
variable {α : Type} (f : α → List S) (k : Nat)

def arr : List α → List S
  | [] => []
  | x :: l => f x ++ arr l

variable {f : α → List S} {k : Nat} (hf : ∀ x, (f x).length = k)
include hf

theorem arr_length : ∀ l : List α, (arr f l).length = l.length * k
  | [] => by simp [arr]
  | x :: l => by simp only [arr, List.length_append, hf, arr_length l, List.length_cons, Nat.succ_mul]; omega

theorem arr_drop : ∀ (l : List α) (i : Nat), (arr f l).drop (i * k) = arr f (l.drop i)
  | [], i => by simp [arr]
  | x :: l, 0 => by simp
  | x :: l, i + 1 => by
    have e : (i + 1) * k = (f x).length + i * k := by rw [hf, Nat.succ_mul]; omega
    simp only [arr, e, List.drop_succ_cons]
    rw [← List.drop_drop, List.drop_left]
    exact arr_drop l i

theorem arr_take : ∀ (l : List α) (i : Nat), (arr f l).take (i * k) = arr f (l.take i)
  | [], i => by simp [arr]
  | x :: l, 0 => by simp [arr]
  | x :: l, i + 1 => by
    have e : (i + 1) * k = (f x).length + i * k := by rw [hf, Nat.succ_mul]; omega
    simp only [arr, e, List.take_succ_cons]
    rw [List.take_length_add_append]
    rw [arr_take l i]

theorem arr_sub {l : List α} {i : Nat} (h : i < l.length) : sub (arr f l) (i * k) k = f l[i] := by
  unfold sub
  rw [arr_drop hf]
  rw [List.drop_eq_getElem_cons h]
  simp only [arr]
  rw [← hf l[i]]
  exact List.take_left

theorem arr_subs (l : List α) (i n : Nat) : sub (arr f l) (i * k) (n * k) = arr f ((l.drop i).take n) := by
  unfold sub
  rw [arr_drop hf, arr_take hf]

theorem arr_get {l : List α} {i j : Nat} (h : i < l.length) (hj : j < k) : (arr f l)[i * k + j]? = (f l[i])[j]? := by
  have e := congrArg (fun q => q[j]?) (arr_sub hf h)
  simp only [sub] at e
  rw [List.getElem?_take, if_pos hj, List.getElem?_drop] at e
  exact e

theorem arr_get0 {l : List α} {i : Nat} (h : i < l.length) (hj : 0 < k) : (arr f l)[i * k]? = (f l[i])[0]? := arr_get (j := 0) hf h hj

omit hf in
theorem arr_append (l m : List α) : arr f (l ++ m) = arr f l ++ arr f m := by
  induction l with
  | nil => rfl
  | cons x l ih => simp only [List.cons_append, arr, ih, List.append_assoc]

theorem arr_put {l : List α} {i : Nat} (h : i < l.length) (x : α) : put (arr f l) (i * k) (f x) = arr f (l.set i x) := by
  have hle : i * k + (f x).length ≤ (arr f l).length := by
    rw [arr_length hf, hf]
    calc i * k + k = (i + 1) * k := by rw [Nat.succ_mul]
      _ ≤ l.length * k := Nat.mul_le_mul_right k h
  rw [put_eq _ _ _ hle, arr_take hf, hf]
  have e : i * k + k = (i + 1) * k := by rw [Nat.succ_mul]
  rw [e, arr_drop hf, List.set_eq_take_append_cons_drop, if_pos h]
  rw [arr_append]
  simp only [arr, List.append_assoc]

omit hf in
theorem arr_all (p : S → Bool) (l : List α) : (arr f l).all p = l.all fun x => (f x).all p := by
  induction l with
  | nil => rfl
  | cons x l ih => simp only [arr, List.all_append, List.all_cons, ih]
end arrs

/-! ### specs -/
def noG : FuncId → FSpec := fun _ _ _ _ => False
def noT : Tab := fun _ _ _ => none
theorem noG_snd (P : Program) : SndΓ P noG := fun _ _ _ _ h => h.elim

/-- A table with one answer more. -/
def addT (f : FuncId) (g : List V → List Blk → Res) (G : Tab) : Tab := fun k args h => if k = f then some (g args h) else G k args h

/-- What a table asks of the program: each function of it does so. -/
def Tab.Snd (P : Program) (G : Tab) : Prop := ∀ f args h r, G f args h = some r → FnOk P f ∧ D.Snd P f fun args h K => ∃ r, G f args h = some r ∧ r.spec K

/-- A table's specs. -/
def Tab.Γ (G : Tab) : FuncId → FSpec := fun f args h K => ∃ r, G f args h = some r ∧ r.spec K
theorem Tab.ok_Γ (G : Tab) : G.ok G.Γ := fun _ _ _ r hr _ hk => ⟨r, hr, hk⟩
theorem Tab.snd_Γ {P : Program} {G : Tab} (h : G.Snd P) : SndΓ P G.Γ := fun f args h' K hg => by
  obtain ⟨r, hr, hk⟩ := hg
  exact h f args h' r hr

theorem noT_snd (P : Program) : noT.Snd P := fun _ _ _ _ h => by cases h
theorem addT_snd {P : Program} {f : FuncId} {g : List V → List Blk → Res} {G : Tab} (ok : FnOk P f) (hg : D.Snd P f (FSpec.of g)) (hG : G.Snd P) : (addT f g G).Snd P := fun k args h r hr => by
  by_cases e : k = f
  · subst e
    refine ⟨ok, ?_⟩
    have : (fun args h K => ∃ r, addT k g G k args h = some r ∧ r.spec K) = FSpec.of g := by
      funext args h K
      simp only [addT, if_true, Option.some.injEq, FSpec.of, exists_eq_left', eq_iff_iff]
    rw [this]
    exact hg
  · have : (fun args h K => ∃ r, addT f g G k args h = some r ∧ r.spec K) = fun args h K => ∃ r, G k args h = some r ∧ r.spec K := by
      funext args h K
      simp only [addT, if_neg e]
    rw [this]
    simp only [addT, if_neg e] at hr
    exact hG k args h r hr

theorem addT_hit {f : FuncId} {g : List V → List Blk → Res} {G : Tab} {args : List V} {h : List Blk} : addT f g G f args h = some (g args h) := by simp [addT]

/-- The i-th, or a given one. -/
def nth {α : Type} (d : α) : List α → Nat → α
  | [], _ => d
  | x :: _, 0 => x
  | _ :: l, i + 1 => nth d l i
theorem nth_eq {α : Type} {d : α} : ∀ {l : List α} {i : Nat} (h : i < l.length), nth d l i = l[i]
  | [], i, h => by simp at h
  | _ :: _, 0, _ => rfl
  | _ :: l, i + 1, h => nth_eq (l := l) (by simpa using h)
theorem nth_get {α : Type} {d : α} {l : List α} {i : Nat} (h : i < l.length) : l[i]? = some (nth d l i) := by
  rw [List.getElem?_eq_getElem h, nth_eq h]

/-- A function by its run, its callees by a table. -/
theorem snd_run {P : Program} {G : Tab} (hG : G.Snd P) (hm : P.follows .mixedOrders = true) {f : FuncId} {fn : Func} {F : DF} (hf : P.funcs[f]? = some fn) (hF : compF P fn = some F) {g : List V → List Blk → Res} (n : Nat)
    (hh : ∀ args h (K : V → List Blk → Prop), clean h.length h = true → (g args h).spec K → holds G.Γ h.length (finP F.res K) (run G n [.c F.body] (args ++ List.replicate (F.ntmps - args.length) (.tup [])) [] h)) :
    D.Snd P f (FSpec.of g) :=
  (fwp_sound (Tab.snd_Γ hG) hm hf hF).weaken fun args h K hc hS => fwp_run G.ok_Γ n (hh args h K hc hS)

/-- The same, up to shared blocks that are forgotten. -/
theorem snd_cut {P : Program} {G : Tab} (hG : G.Snd P) (hm : P.follows .mixedOrders = true) {f : FuncId} {fn : Func} {F : DF} (hf : P.funcs[f]? = some fn) (hF : compF P fn = some F) {g : List V → List Blk → Res} (n : Nat)
    (hh : ∀ args h (K : V → List Blk → Prop), clean h.length h = true → (g args h).spec K → holds G.Γ h.length (finP F.res (Cut h.length K)) (run G n [.c F.body] (args ++ List.replicate (F.ntmps - args.length) (.tup [])) [] h)) :
    D.Snd P f (FSpec.of g) :=
  ((fwp_sound (Tab.snd_Γ hG) hm hf hF).weaken fun args h K hc hS => fwp_run G.ok_Γ n hS).cut fun args h K hc hS => hh args h K hc hS

theorem cut_all {n : Nat} {K : V → List Blk → Prop} {v : V} {h : List Blk} (hn : n ≤ h.length) (hc : clean h.length h = true) (hv : v.val h.length 0 = true) (hK : K v h) : Cut n K v h := ⟨h, [], by simp, hn, hc, hv, hK⟩
theorem cut_app {n : Nat} {K : V → List Blk → Prop} {v : V} {h junk : List Blk} (hn : n ≤ h.length) (hc : clean h.length h = true) (hv : v.val h.length 0 = true) (hK : K v h) : Cut n K v (h ++ junk) := ⟨h, junk, rfl, hn, hc, hv, hK⟩


/-! ### scalars, form by form (one that is not known stays) -/
theorem S_val {n m : Nat} : (S.val n m .u = true) ∧ (∀ (x : Bool), S.val n m (.b x) = true) ∧ (∀ (k : IntKind) (x : Int), S.val n m (.i k x) = true) ∧ (∀ (r : R) (o : Nat), S.val n m (.p r o) = R.val n m r) ∧ (S.val n m .np = true) ∧ (∀ (r : R) (o a c : Nat), S.val n m (.sl r o a c) = R.val n m r) ∧ (S.val n m .ns = true) ∧ (∀ (a : Addr) (c : Nat), S.val n m (.es a c) = true) ∧ (∀ (f : FuncId) (cs : List (R × Nat)), S.val n m (.fn f cs) = cs.all fun x => R.val n m x.1) ∧ (S.val n m .nf = true) := by
  refine ⟨?_, ?_, ?_, ?_, ?_, ?_, ?_, ?_, ?_, ?_⟩ <;> intros <;> rfl
theorem S_noL  : (S.noL .u = true) ∧ (∀ (x : Bool), S.noL (.b x) = true) ∧ (∀ (k : IntKind) (x : Int), S.noL (.i k x) = true) ∧ (∀ (r : R) (o : Nat), S.noL (.p r o) = R.noL r) ∧ (S.noL .np = true) ∧ (∀ (r : R) (o a c : Nat), S.noL (.sl r o a c) = R.noL r) ∧ (S.noL .ns = true) ∧ (∀ (a : Addr) (c : Nat), S.noL (.es a c) = true) ∧ (∀ (f : FuncId) (cs : List (R × Nat)), S.noL (.fn f cs) = cs.all fun x => R.noL x.1) ∧ (S.noL .nf = true) := by
  refine ⟨?_, ?_, ?_, ?_, ?_, ?_, ?_, ?_, ?_, ?_⟩ <;> intros <;> rfl
theorem S_below {n : Nat} : (S.below n .u = true) ∧ (∀ (x : Bool), S.below n (.b x) = true) ∧ (∀ (k : IntKind) (x : Int), S.below n (.i k x) = true) ∧ (∀ (r : R) (o : Nat), S.below n (.p r o) = R.below n r) ∧ (S.below n .np = true) ∧ (∀ (r : R) (o a c : Nat), S.below n (.sl r o a c) = R.below n r) ∧ (S.below n .ns = true) ∧ (∀ (a : Addr) (c : Nat), S.below n (.es a c) = true) ∧ (∀ (f : FuncId) (cs : List (R × Nat)), S.below n (.fn f cs) = cs.all fun x => R.below n x.1) ∧ (S.below n .nf = true) := by
  refine ⟨?_, ?_, ?_, ?_, ?_, ?_, ?_, ?_, ?_, ?_⟩ <;> intros <;> rfl
theorem S_names {n : Nat} : (S.names n .u = false) ∧ (∀ (x : Bool), S.names n (.b x) = false) ∧ (∀ (k : IntKind) (x : Int), S.names n (.i k x) = false) ∧ (∀ (r : R) (o : Nat), S.names n (.p r o) = R.names n r) ∧ (S.names n .np = false) ∧ (∀ (r : R) (o a c : Nat), S.names n (.sl r o a c) = R.names n r) ∧ (S.names n .ns = false) ∧ (∀ (a : Addr) (c : Nat), S.names n (.es a c) = false) ∧ (∀ (f : FuncId) (cs : List (R × Nat)), S.names n (.fn f cs) = cs.any fun x => R.names n x.1) ∧ (S.names n .nf = false) := by
  refine ⟨?_, ?_, ?_, ?_, ?_, ?_, ?_, ?_, ?_, ?_⟩ <;> intros <;> rfl
theorem S_ren {ρ : R → R} : (S.ren ρ .u = .u) ∧ (∀ (x : Bool), S.ren ρ (.b x) = (.b x)) ∧ (∀ (k : IntKind) (x : Int), S.ren ρ (.i k x) = (.i k x)) ∧ (∀ (r : R) (o : Nat), S.ren ρ (.p r o) = .p (ρ r) o) ∧ (S.ren ρ .np = .np) ∧ (∀ (r : R) (o a c : Nat), S.ren ρ (.sl r o a c) = .sl (ρ r) o a c) ∧ (S.ren ρ .ns = .ns) ∧ (∀ (a : Addr) (c : Nat), S.ren ρ (.es a c) = (.es a c)) ∧ (∀ (f : FuncId) (cs : List (R × Nat)), S.ren ρ (.fn f cs) = .fn f (cs.map fun x => (ρ x.1, x.2))) ∧ (S.ren ρ .nf = .nf) := by
  refine ⟨?_, ?_, ?_, ?_, ?_, ?_, ?_, ?_, ?_, ?_⟩ <;> intros <;> rfl
theorem S_known  : (V.known (.s .u) = false) ∧ (∀ (x : Bool), V.known (.s (.b x)) = true) ∧ (∀ (k : IntKind) (x : Int), V.known (.s (.i k x)) = true) ∧ (∀ (r : R) (o : Nat), V.known (.s (.p r o)) = true) ∧ (V.known (.s .np) = true) ∧ (∀ (r : R) (o a c : Nat), V.known (.s (.sl r o a c)) = true) ∧ (V.known (.s .ns) = true) ∧ (∀ (a : Addr) (c : Nat), V.known (.s (.es a c)) = true) ∧ (∀ (f : FuncId) (cs : List (R × Nat)), V.known (.s (.fn f cs)) = true) ∧ (V.known (.s .nf) = true) := by
  refine ⟨?_, ?_, ?_, ?_, ?_, ?_, ?_, ?_, ?_, ?_⟩ <;> intros <;> rfl
theorem S_plain  : (V.plain (.s .u) = false) ∧ (∀ (x : Bool), V.plain (.s (.b x)) = true) ∧ (∀ (k : IntKind) (x : Int), V.plain (.s (.i k x)) = true) ∧ (∀ (r : R) (o : Nat), V.plain (.s (.p r o)) = true) ∧ (V.plain (.s .np) = true) ∧ (∀ (r : R) (o a c : Nat), V.plain (.s (.sl r o a c)) = true) ∧ (V.plain (.s .ns) = true) ∧ (∀ (a : Addr) (c : Nat), V.plain (.s (.es a c)) = true) ∧ (∀ (f : FuncId) (cs : List (R × Nat)), V.plain (.s (.fn f cs)) = true) ∧ (V.plain (.s .nf) = true) := by
  refine ⟨?_, ?_, ?_, ?_, ?_, ?_, ?_, ?_, ?_, ?_⟩ <;> intros <;> rfl
theorem V_known : (∀ xs, V.known (.agg xs) = known xs) ∧ (∀ cs, V.known (.tup cs) = cs.all C.known) := by
  refine ⟨?_, ?_⟩ <;> intros <;> rfl
theorem V_plain : (∀ xs, V.plain (.agg xs) = known xs) ∧ (∀ cs, V.plain (.tup cs) = false) := by
  refine ⟨?_, ?_⟩ <;> intros <;> rfl
theorem C_known : (∀ x, C.known (.s x) = V.known (.s x)) ∧ (∀ xs, C.known (.agg xs) = known xs) := by
  refine ⟨?_, ?_⟩
  · intro x; cases x <;> rfl
  · intros; rfl

end Go.D

/- The equations by which the machine is evaluated, as one fact. -/
namespace Go.D
set_option linter.all false
set_option maxRecDepth 100000
set_option linter.all false
def EV1 := And.intro (And.intro (And.intro (And.intro (And.intro (@run_je) (@resume_leaf)) (And.intro (@resume_all) (@resume_bad))) (And.intro (And.intro (@resume_res) (@resume_cond)) (And.intro (@resume_ob) (@join_leaf)))) (And.intro (And.intro (And.intro (@join_ob1) (@join_ob2)) (And.intro (@obS_true) (@obS_false))) (And.intro (And.intro (@zipC_nil) (@zipC_cons)) (And.intro (@jv_self) (@jv_b))))) (And.intro (And.intro (And.intro (And.intro (@jv_i) (@cond_ff)) (And.intro (@cond_tt) (@cond_ft))) (And.intro (And.intro (@cond_tf) (@cond_same)) (And.intro (@run_zero) (@run_nil)))) (And.intro (And.intro (And.intro (@run_blk) (@run_lp)) (And.intro (@run_gi0) (@run_gi))) (And.intro (And.intro (@run_gig) (@run_q0)) (And.intro (@run_q) (@run_qg)))))
def EV2 := And.intro (And.intro (And.intro (And.intro (And.intro (@run_skip) (@run_reg)) (And.intro (@run_drt) (@run_drq))) (And.intro (And.intro (@cut_s) (@cut_0)) (And.intro (@run_drm) (@frames_nil)))) (And.intro (And.intro (And.intro (@frames_q) (@frames_g)) (And.intro (@run_seq) (@run_cond))) (And.intro (And.intro (@run_block) (@run_loop)) (And.intro (@run_exit) (@run_ret))))) (And.intro (And.intro (And.intro (And.intro (@cont_ok) (@cont_br)) (And.intro (@cont_ob) (@cont_call))) (And.intro (And.intro (@cont_app) (@cont_bad)) (And.intro (@cont_all) (@contG_all)))) (And.intro (And.intro (And.intro (@into_all) (@unlend_all)) (And.intro (@contG_ok) (@contG_br))) (And.intro (And.intro (@contG_ob) (@contG_call)) (And.intro (@contG_app) (@contG_bad)))))
def EV3 := And.intro (And.intro (And.intro (And.intro (And.intro (@contQ_ok) (@contQ_br)) (And.intro (@contQ_ob) (@contQ_call))) (And.intro (And.intro (@contQ_callv) (@contQ_bad)) (And.intro (@contQ2_ok) (@contQ2_br)))) (And.intro (And.intro (And.intro (@contQ2_ob) (@contQG_some)) (And.intro (@contQH_ok) (@contQH_br))) (And.intro (And.intro (@contQH_ob) (@guard_b)) (And.intro (@guard_t) (@guardQ_b))))) (And.intro (And.intro (And.intro (And.intro (@guardQ_t) (@condV_b)) (And.intro (@exitV_some) (@callR_t))) (And.intro (And.intro (@callR_f) (@callO_some)) (And.intro (@callO_none) (@callL_some)))) (And.intro (And.intro (And.intro (@callL_none) (@into_ok)) (And.intro (@into_ob) (@into_br))) (And.intro (And.intro (@unlend_ok) (@unlend_ob)) (And.intro (@unlend_br) (@ev_t)))))
def EV4 := And.intro (And.intro (And.intro (And.intro (And.intro (@ev_k) (@tg_some)) (And.intro (@put_nil) (@put_succ))) (And.intro (And.intro (@put_zero) (@known_nil)) (And.intro (@known_cons) (@List.map_cons.{0, 0})))) (And.intro (And.intro (And.intro (@List.map_nil.{0, 0}) (@q_all_cons.{0})) (And.intro (@q_all_nil.{0}) (@q_get0.{0}))) (And.intro (And.intro (@q_getS.{0}) (@q_getN.{0})) (And.intro (@q_len_cons.{0}) (@q_len_nil.{0}))))) (And.intro (And.intro (And.intro (And.intro (@q_cons_app.{0}) (@q_nil_app.{0})) (And.intro (@List.append_nil.{0}) (@List.append_assoc.{0}))) (And.intro (And.intro (@List.length_append.{0}) (@app_get0)) (And.intro (@app_getn) (@app_set0)))) (And.intro (And.intro (And.intro (@app_setn) (@Bool.and_true)) (And.intro (@Bool.true_and) (@Bool.and_false))) (And.intro (And.intro (@Bool.false_and) (@Bool.or_true)) (And.intro (@Bool.true_or) (@Bool.or_false)))))
def EV5 := And.intro (And.intro (And.intro (And.intro (And.intro (@Bool.false_or) (@Bool.not_true)) (And.intro (@Bool.not_false) (@Bool.false_eq_true))) (And.intro (And.intro (@holds_done) (@holds_obS)) (And.intro (@holds_all) (@holds_lp)))) (And.intro (And.intro (And.intro (@holds_bad) (@holds_cond_eq)) (And.intro (@fin_ret) (@fin_nrm))) (And.intro (And.intro (@finO_some) (@leave_eq)) (And.intro (@leaveB_true) (@rval_t))))) (And.intro (And.intro (And.intro (And.intro (@rval_c) (@rvT_s)) (And.intro (@rvT_agg) (@false_and))) (And.intro (And.intro (@and_false) (@q_cast)) (And.intro (@false_imp_iff) (@true_imp_iff)))) (And.intro (And.intro (And.intro (@not_true_eq_false) (@Classical.not_not)) (And.intro (@true_or) (@or_true))) (And.intro (And.intro (@or_self) (@or_false)) (And.intro (@false_or) (@Nat.lt_irrefl)))))
def EV6 := And.intro (And.intro (And.intro (And.intro (@Nat.one_mul) (@Nat.mul_one)) (And.intro (@decide_true) (And.intro (@decide_false) (@decide_eq_true_eq)))) (And.intro (And.intro (@Bool.not_eq_true') (And.intro (@Bool.not_eq_false') (@Bool.and_eq_true))) (And.intro (@Bool.or_eq_true) (And.intro (@Bool.eq_false_iff) (@Nat.zero_add))))) (And.intro (And.intro (And.intro (@q_add_zero) (@Nat.zero_mul)) (And.intro (@Nat.le_refl) (And.intro (@not_false_eq_true) (@q_toNat)))) (And.intro (And.intro (@sub_succ) (And.intro (@sub_zero) (@sub_none))) (And.intro (@List.length_set.{0}) (And.intro (@beq_self_eq_true.{0}) (@bne_self_eq_false.{0})))))
end Go.D

