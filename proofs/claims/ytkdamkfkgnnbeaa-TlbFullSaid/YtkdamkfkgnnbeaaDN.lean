/- Soundness: regions, code, functions. -/
import Derived.Test.YtkdamkfkgnnbeaaDM
namespace Go.D

section
variable {P : Program} {Γ : FuncId → FSpec} {σ0 : Sg} {h0 : List Blk} {w0 : World}

theorem compGs_cons {ops : Array Oper} {o : Oper} {os : List Oper} {gl : List GI} (h : compGs P ops (o :: os) = some gl) :
    ∃ g l, gl = g :: l ∧ compG P ops o = some g ∧ compGs P ops os = some l := by
  simp only [compGs] at h
  split at h
  · rename_i g l h1 h2; cases h; exact ⟨g, l, rfl, h1, h2⟩
  · cases h

theorem compG_spec {ops : Array Oper} {o : Oper} {g : GI} (h : compG P ops o = some g) :
    compI P o = some g.op ∧ g.dst = o.dst ∧ ((o.guard = none ∧ g.g = none) ∨ ∃ j want oj d, o.guard = some (j, want) ∧ ops[j]? = some oj ∧ oj.dst = some d ∧ g.g = some (d, want)) := by
  unfold compG at h
  split at h
  · rename_i i hi
    split at h
    · rename_i hg; cases h; exact ⟨hi, rfl, .inl ⟨hg, rfl⟩⟩
    · rename_i j want hg
      split at h
      · rename_i oj hoj
        split at h
        · rename_i d hd; cases h; exact ⟨hi, rfl, .inr ⟨j, want, oj, d, hg, hoj, hd, rfl⟩⟩
        · cases h
      · cases h
  · cases h

/-- What a guard says. -/
theorem guard_wanted {σ : Sg} {t : List V} {a : Act} {n m : Nat} (hT : TRel σ t a.tmps n m) {ops : Array Oper} {o oj : Oper} {j d : Nat} {want : Bool} (hg : o.guard = some (j, want)) (hj : ops[j]? = some oj) (hd : oj.dst = some d) :
    (∀ q, t.getD d (.tup []) = .s (.b q) → Region.wanted o (yielded ops a.tmps) = (q == want)) ∧ (t.getD d (.tup []) = .tup [] → Region.wanted o (yielded ops a.tmps) = false) := by
  have hy : yielded ops a.tmps j = match a.tmps[d]? with | some (.bool b) => some b | _ => none := by
    simp only [yielded, hj, Option.bind_some, hd]
    rfl
  refine ⟨fun q hq => ?_, fun hq => ?_⟩
  · have hlt : d < t.length := by
      rcases Nat.lt_or_ge d t.length with h | h
      · exact h
      · rw [show t.getD d (.tup []) = .tup [] by simp [List.getD, List.getElem?_eq_none h]] at hq; cases hq
    have hi : t[d]? = some (.s (.b q)) := by rw [← hq]; simp [List.getD, hlt]
    obtain ⟨_, x, h2, h3⟩ := hT.at_ d _ hi
    have hx := h3.eq (by simp)
    simp only [V.tr, S.tr] at hx
    subst hx
    simp only [Region.wanted, hg, hy, h2]
    cases q <;> cases want <;> rfl
  · rcases Nat.lt_or_ge d t.length with hlt | hge
    · have hi : t[d]? = some (.tup []) := by rw [← hq]; simp [List.getD, hlt]
      obtain ⟨_, x, h2, h3⟩ := hT.at_ d _ hi
      have hx := h3.eq (by simp)
      simp only [V.tr, List.map_nil] at hx
      subst hx
      simp only [Region.wanted, hg, hy, h2]
      rfl
    · simp only [Region.wanted, hg, hy, Array.getElem?_eq_none (by rw [← hT.size]; exact hge)]
      rfl

theorem set_getD {t : List V} {d : Nat} {v : V} (h : t.getD d (.tup []) = v) (hv : v ≠ .tup []) : t.set d v = t := by
  refine set_same ?_
  rcases Nat.lt_or_ge d t.length with hlt | hge
  · rw [← h]; simp [List.getD, hlt]
  · rw [show t.getD d (.tup []) = .tup [] by simp [List.getD, List.getElem?_eq_none hge]] at h; exact absurd h.symm hv

theorem put_defers (a : Act) (d : Option Tmp) (x : Value) : (a.put d x).defers = a.defers := by cases d <;> rfl

/-- A region in the text's order. -/
theorem rwp_sound (hΓ : SndΓ P Γ) {ops : Array Oper} : ∀ (os : List Oper) (gl : List GI), compGs P ops os = some gl → ∀ (σ : Sg) (t : List V) (a : Act) (ls h : List Blk) (w : World) (K : List V → List Blk → List Blk → Prop) (Q : Exit → Act → World → Prop),
    Inv σ0 h0 w0 σ h ls w → TRel σ t a.tmps h.length ls.length → rwp Γ gl t ls h K →
    (∀ σ' t' ls' h' w' a', Inv σ0 h0 w0 σ' h' ls' w' → TRel σ' t' a'.tmps h'.length ls'.length → a'.defers = a.defers → K t' ls' h' → Q .normal a' w') →
    wpList P ops Q os a w
  | [], gl, hc, σ, t, a, ls, h, w, K, Q, H, hT, hK, hn => by
    simp only [compGs, Option.some.injEq] at hc
    subst hc
    exact hn σ t ls h w a H hT rfl hK
  | o :: os, gl, hc, σ, t, a, ls, h, w, K, Q, H, hT, hK, hn => by
    obtain ⟨g, l, rfl, hg, hl⟩ := compGs_cons hc
    obtain ⟨hi, hdst, hgd⟩ := compG_spec hg
    simp only [rwp] at hK
    have hdo : iwp Γ g.op t ls h (fun t v ls h => rwp Γ l (putD t g.dst v) ls h K) → o.wp P a w (wpList P ops Q os) Q := fun hK => by
      refine acts_all hΓ hi σ0 h0 w0 σ t a ls h w _ _ Q H hT hK (fun σ' t' v x ls' h' w' H' hT' hv hx hK' => ?_)
      rw [hdst] at hK'
      exact rwp_sound hΓ os l hl σ' _ _ ls' h' w' K Q H' (hT'.put o.dst hv hx) hK' (fun σ2 t2 ls2 h2 w2 a2 i1 i2 i3 i4 => hn σ2 t2 ls2 h2 w2 a2 i1 i2 (by rw [i3, put_defers]) i4)
    have hskip : rwp Γ l (putD t g.dst (.tup [])) ls h K → wpList P ops Q os (a.put o.dst undef) w := fun hK => by
      rw [hdst] at hK
      exact rwp_sound hΓ os l hl σ _ _ ls h w K Q H (hT.put o.dst rfl (.inr rfl)) hK (fun σ2 t2 ls2 h2 w2 a2 i1 i2 i3 i4 => hn σ2 t2 ls2 h2 w2 a2 i1 i2 (by rw [i3, put_defers]) i4)
    unfold wpList
    unfold gwp at hK
    rcases hgd with ⟨h1, h2⟩ | ⟨j, want, oj, d, h1, h2, h3, h4⟩
    · rw [h2] at hK
      rw [if_pos (by simp [Region.wanted, h1])]
      exact .inl (hdo hK)
    · rw [h4] at hK
      simp only at hK
      obtain ⟨g1, g2⟩ := guard_wanted hT h1 h2 h3
      split at hK
      · rename_i q hq
        rw [g1 q hq]
        cases q
        · simp only [bcase] at hK
          rw [set_getD hq (by simp)] at hK
          split at hK
          · rename_i hw; rw [if_pos hw]; exact .inl (hdo hK)
          · rename_i hw; rw [if_neg hw]; exact hskip hK
        · simp only [bcase] at hK
          rw [set_getD hq (by simp)] at hK
          split at hK
          · rename_i hw; rw [if_pos hw]; exact .inl (hdo hK)
          · rename_i hw; rw [if_neg hw]; exact hskip hK
      · rename_i hq
        rw [g2 hq, if_neg (by simp)]
        exact hskip hK
      · exact hK.elim

/-- The instructions at the head only look: whatever world they stand in. -/
theorem head_sound {ops : Array Oper} : ∀ (os : List Oper) (gl : List GI), compGs P ops os = some gl → ∀ (n : Nat), n ≤ headLen gl → ∀ (σ : Sg) (t : List V) (a : Act) (ls h : List Blk) (w : World) (K : List V → List Blk → List Blk → Prop) (R : Act → Prop),
    Inv σ0 h0 w0 σ h ls w → TRel σ t a.tmps h.length ls.length → rwp Γ gl t ls h K →
    (∀ t' a', TRel σ t' a'.tmps h.length ls.length → a'.defers = a.defers → rwp Γ (gl.drop n) t' ls h K → R a') →
    wpStill P ops w R (os.take n) a
  | os, gl, _, 0, _, σ, t, a, ls, h, w, K, R, _, hT, hK, hn => by
    simp only [List.take_zero, wpStill]
    exact hn t a hT rfl hK
  | [], gl, hc, n + 1, hlen, σ, t, a, ls, h, w, K, R, H, hT, hK, hn => by
    simp only [compGs, Option.some.injEq] at hc
    subst hc
    simp [headLen] at hlen
  | o :: os, gl, hc, n + 1, hlen, σ, t, a, ls, h, w, K, R, H, hT, hK, hn => by
    obtain ⟨g, l, rfl, hg, hl⟩ := compGs_cons hc
    obtain ⟨hi, hdst, hgd⟩ := compG_spec hg
    simp only [headLen] at hlen
    have hst : g.op.still = true := by
      cases hst : g.op.still
      · rw [hst] at hlen; simp at hlen
      · rfl
    rw [hst] at hlen
    simp only [if_true] at hlen
    simp only [rwp] at hK
    simp only [List.take_succ_cons, wpStill]
    have hdo : iwp Γ g.op t ls h (fun t v ls h => rwp Γ l (putD t g.dst v) ls h K) → o.still P a w (wpStill P ops w R (os.take n)) := fun hK => by
      obtain ⟨v, x, k1, k2, k3, k4⟩ := looks_all hi hst Γ σ t a ls h _ hT (fun r B hb => H.sim.bval hb) hK
      unfold Oper.still
      rw [k4 w H.sim, Oper.stillUpon_value]
      rw [hdst] at k1
      exact head_sound os l hl n (by omega) σ _ _ ls h w K R H (hT.put o.dst k2 k3) k1 (fun t' a' i1 i2 i3 => hn t' a' i1 (by rw [i2, put_defers]) i3)
    have hskip : rwp Γ l (putD t g.dst (.tup [])) ls h K → wpStill P ops w R (os.take n) (a.put o.dst undef) := fun hK => by
      rw [hdst] at hK
      exact head_sound os l hl n (by omega) σ _ _ ls h w K R H (hT.put o.dst rfl (.inr rfl)) hK (fun t' a' i1 i2 i3 => hn t' a' i1 (by rw [i2, put_defers]) i3)
    unfold gwp at hK
    rcases hgd with ⟨h1, h2⟩ | ⟨j, want, oj, d, h1, h2, h3, h4⟩
    · rw [h2] at hK
      rw [if_pos (by simp [Region.wanted, h1])]
      exact hdo hK
    · rw [h4] at hK
      simp only at hK
      obtain ⟨g1, g2⟩ := guard_wanted hT h1 h2 h3
      split at hK
      · rename_i q hq
        rw [g1 q hq]
        cases q
        · simp only [bcase] at hK
          rw [set_getD hq (by simp)] at hK
          split at hK
          · rename_i hw; rw [if_pos hw]; exact hdo hK
          · rename_i hw; rw [if_neg hw]; exact hskip hK
        · simp only [bcase] at hK
          rw [set_getD hq (by simp)] at hK
          split at hK
          · rename_i hw; rw [if_pos hw]; exact hdo hK
          · rename_i hw; rw [if_neg hw]; exact hskip hK
      · rename_i hq
        rw [g2 hq, if_neg (by simp)]
        exact hskip hK
      · exact hK.elim

/-- What is known of the blocks hangs on the valid references alone. -/
theorem Inv.agree {σ σ' : Sg} {h ls : List Blk} {w : World} (H : Inv σ0 h0 w0 σ h ls w) (hA : Agree h.length ls.length σ σ') : Inv σ0 h0 w0 σ' h ls w := by
  have hr : ∀ r B, blk h ls r = some B → σ' r = σ r := fun r B hb => hA r (blk_val hb)
  refine ⟨⟨fun r B hb => ?_, fun r r' B B' hb hb' => ?_, H.sim.gval, H.sim.lval⟩, H.kept, H.len, fun k hk => ?_, fun r B hb hst => ?_, fun k hk hk' => ?_, H.live⟩
  · exact (H.sim.ok r B hb).move (hr r B hb) hA (H.sim.bval hb) (Nat.le_refl _) (fun _ => rfl)
  · rw [hr r B hb, hr r' B' hb']; exact H.sim.sep r r' B B' hb hb'
  · rw [hA (.g k) (by simp only [R.val, decide_eq_true_eq]; have := H.len; omega)]; exact H.old k hk
  · rw [hr r B hb]; exact H.mine r B hb hst
  · rw [hA (.g k) (by simpa [R.val] using hk')]; exact H.new k hk hk'

/-- A region whose order is drawn, and whose operations leave the blocks as they are. -/
theorem rqwp_sound (hΓ : SndΓ P Γ) {ops : Array Oper} (σ : Sg) (ls h : List Blk) : ∀ (os : List Oper) (gl : List GI), compGs P ops os = some gl → gl.all (fun x => x.op.quiet) = true → ∀ (t : List V) (a : Act) (K : List V → Prop) (R : Act → Prop),
    (∃ w, Inv σ0 h0 w0 σ h ls w) → TRel σ t a.tmps h.length ls.length → rqwp Γ gl t ls h K →
    (∀ t' a', TRel σ t' a'.tmps h.length ls.length → a'.defers = a.defers → K t' → R a') →
    wpQuiet P ops (fun w => Inv σ0 h0 w0 σ h ls w) R os a
  | [], gl, hc, _, t, a, K, R, _, hT, hK, hn => by
    simp only [compGs, Option.some.injEq] at hc
    subst hc
    exact hn t a hT rfl hK
  | o :: os, gl, hc, hq, t, a, K, R, hex, hT, hK, hn => by
    obtain ⟨g, l, rfl, hg, hl⟩ := compGs_cons hc
    obtain ⟨hi, hdst, hgd⟩ := compG_spec hg
    simp only [List.all_cons, Bool.and_eq_true] at hq
    simp only [rqwp] at hK
    simp only [wpQuiet]
    have hdo : qwp Γ g.op t ls h (fun v => rqwp Γ l (putD t g.dst v) ls h K) → o.quiet P a (fun w => Inv σ0 h0 w0 σ h ls w) (wpQuiet P ops (fun w => Inv σ0 h0 w0 σ h ls w) R os) := fun hK => by
      by_cases hst : g.op.still = true
      · have hK2 : iwp Γ g.op t ls h (fun _ v _ _ => rqwp Γ l (putD t g.dst v) ls h K) := by
          unfold qwp at hK
          split at hK
          · rename_i f args heq; rw [heq] at hst; cases hst
          · exact hK
        obtain ⟨w, hw⟩ := hex
        obtain ⟨v, x, k1, k2, k3, k4⟩ := looks_all hi hst Γ σ t a ls h _ hT (fun r B hb => hw.sim.bval hb) hK2
        refine ⟨x, fun w' hw' => ?_, ?_⟩
        · unfold Oper.quietAt
          rw [k4 w' hw'.sim]
          exact ⟨rfl, rfl⟩
        · rw [hdst] at k1
          exact rqwp_sound hΓ σ ls h os l hl hq.2 _ _ K R ⟨w, hw⟩ (hT.put o.dst k2 k3) k1 (fun t' a' i1 i2 i3 => hn t' a' i1 (by rw [i2, put_defers]) i3)
      · obtain ⟨f, args, hcall⟩ : ∃ f args, g.op = .call f args := by
          have := hq.1
          cases hop : g.op <;> rw [hop] at this hst <;> first | exact ⟨_, _, rfl⟩ | (exfalso; exact hst this)
        rw [hcall] at hK hi
        simp only [qwp] at hK
        obtain ⟨⟨hkn, hno⟩, v, hv0, hcal, hK⟩ := hK
        have hcx : ∃ c : Call, o.op = .call c ∧ c.callee = .value (.func f) ∧ compXs c.args.toList = some args := by
          unfold compI at hi
          (repeat' split at hi) <;> (try (simp only [Option.map_eq_some_iff] at hi; obtain ⟨_, _, hi⟩ := hi)) <;> (try cases hi)
          all_goals exact ⟨_, by assumption, by assumption, by assumption⟩
        obtain ⟨c, ho, hcal2, hxs⟩ := hcx
        obtain ⟨hok, hs⟩ := hΓ _ _ _ _ hcal
        obtain ⟨a1, a2⟩ := args_is hT hxs hkn
        have hval' : (args.map (ev t)).all (V.val h.length 0) = true := by
          simp only [List.all_eq_true] at a2 hno ⊢
          exact fun x hx => V.val_noL (a2 x hx) (hno x hx)
        have hvargs : c.args.map a.eval = ((args.map (ev t)).map (V.tr σ)).toArray := by
          rw [← a1, ← Array.toList_map, Array.toArray_toList]
        refine ⟨v.tr σ, fun w' hw' => ?_, ?_⟩
        · unfold Oper.quietAt
          have he : a.eval (.func f) = .func (.func f) #[] #[] := rfl
          have hrun : (execOp a.eval o).run P w' = .ok (.enter f (c.args.map a.eval)) w' := by
            simp [execOp, ho, resolve, hcal2, he, ofValue_func, invoke, callFunc_run hok]
          rw [hrun, hvargs]
          refine ⟨rfl, ?_⟩
          refine (hs σ h w' _ _ hw'.sim.glob hval' hkn hcal).mono ?_
          rintro e w2 ⟨v', h', σ', rfl, k1, k2, H1, rfl, rfl⟩
          refine ⟨?_, ?_⟩
          · congr 1
            exact V.tr_congr (n := 0) (m := 0) (fun r hr => by cases r <;> simp [Go.D.R.val] at hr) v' hv0
          · exact (hw'.call H1).agree (fun r hr => (mix_agree H1 _ r hr).symm)
        · rw [hdst] at hK
          exact rqwp_sound hΓ σ ls h os l hl hq.2 _ _ K R hex (hT.put o.dst (V.val_mono (Nat.zero_le _) (Nat.zero_le _) hv0) (.inr rfl)) hK (fun t' a' i1 i2 i3 => hn t' a' i1 (by rw [i2, put_defers]) i3)
    have hskip : rqwp Γ l (putD t g.dst (.tup [])) ls h K → wpQuiet P ops (fun w => Inv σ0 h0 w0 σ h ls w) R os (a.put o.dst undef) := fun hK => by
      rw [hdst] at hK
      exact rqwp_sound hΓ σ ls h os l hl hq.2 _ _ K R hex (hT.put o.dst rfl (.inr rfl)) hK (fun t' a' i1 i2 i3 => hn t' a' i1 (by rw [i2, put_defers]) i3)
    unfold gqwp at hK
    rcases hgd with ⟨h1, h2⟩ | ⟨j, want, oj, d, h1, h2, h3, h4⟩
    · rw [h2] at hK
      rw [if_pos (by simp [Region.wanted, h1])]
      exact hdo hK
    · rw [h4] at hK
      simp only at hK
      obtain ⟨g1, g2⟩ := guard_wanted hT h1 h2 h3
      split at hK
      · rename_i q hq
        rw [g1 q hq]
        cases q
        · simp only [bcase] at hK
          rw [set_getD hq (by simp)] at hK
          split at hK
          · rename_i hw; rw [if_pos hw]; exact hdo hK
          · rename_i hw; rw [if_neg hw]; exact hskip hK
        · simp only [bcase] at hK
          rw [set_getD hq (by simp)] at hK
          split at hK
          · rename_i hw; rw [if_pos hw]; exact hdo hK
          · rename_i hw; rw [if_neg hw]; exact hskip hK
      · rename_i hq
        rw [g2 hq, if_neg (by simp)]
        exact hskip hK
      · exact hK.elim

end
end Go.D
