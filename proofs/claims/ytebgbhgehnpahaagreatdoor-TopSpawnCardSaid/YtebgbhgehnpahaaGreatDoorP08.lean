/- A part of the proof of the claim that the last text of this folder states. -/
import Derived.RangeFuncLeaves
import Derived.Test.YtebgbhgehnpahaaGreatDoorP07
namespace Go.E
set_option linter.all false
def iniT : List V → Pth → T → T
  | [], _, t => t
  | v :: l, p, t => iniT l p.succ (st vu p v t)
theorem iniK_eq : ∀ (l : List V) (p : Pth) (t : T) (c : T → Ans), iniK l p t c = c (iniT l p t)
  | [], _, _, _ => rfl
  | v :: l, p, t, c => by
    show stK vu p t v (fun t => p.succK fun p => iniK l p t c) = _
    rw [stK_eq, Pth.succK_eq, iniK_eq l]; rfl
theorem iniT_gt : ∀ (l : List V) (p : Pth) (t : T) (q : Pth), gt vu q (iniT l p t) = if p.n ≤ q.n ∧ q.n < p.n + l.length then l.getD (q.n - p.n) vu else gt vu q t
  | [], p, t, q => by
    rw [if_neg (by simp only [List.length_nil]; omega)]; rfl
  | v :: l, p, t, q => by
    rw [iniT, iniT_gt l, Pth.succ_n, gt_st]
    simp only [List.length_cons]
    by_cases h : p.n + 1 ≤ q.n ∧ q.n < p.n + 1 + l.length
    · rw [if_pos h, if_pos (by omega)]
      have : q.n - p.n = (q.n - (p.n + 1)) + 1 := by omega
      rw [this, List.getD_cons_succ]
    · rw [if_neg h]
      by_cases hq : q = p
      · rw [if_pos hq, if_pos (by rw [hq]; omega), hq, Nat.sub_self, List.getD_cons_zero]
      · rw [if_neg hq]
        have hne : q.n ≠ p.n := fun c => hq (Pth.inj c)
        rw [if_neg (by omega)]
theorem iniT_rf {f : Pth → Bool} : ∀ {l : List V} {p : Pth} {t : T}, l.all (V.rf f) = true → t.rf f = true → (iniT l p t).rf f = true
  | [], _, _, _, h => h
  | v :: l, p, t, hl, h => by
    simp only [List.all_cons, Bool.and_eq_true] at hl
    show (iniT l p.succ (st vu p v t)).rf f = true
    exact iniT_rf hl.2 (Tr.rf_st h hl.1)
theorem Iss.length {e : Env} : ∀ {vs : List V} {xs : List Value}, Iss e vs xs → xs.length = vs.length
  | _, _, .nil => rfl
  | _, _, .cons h t => by simp [Iss.length t]
theorem Iss.get {e : Env} : ∀ {vs : List V} {xs : List Value}, Iss e vs xs → ∀ i, i < vs.length → Isu e (vs.getD i vu) (xs.getD i undef)
  | _, _, .nil, i, h => by cases h
  | _, _, .cons h t, 0, _ => h
  | _, _, .cons h t, i + 1, hi => by simp only [List.getD_cons_succ]; exact Iss.get t i (by simpa using hi)
theorem getD_append_undef (xs : List Value) (m i : Nat) : (xs.toArray ++ Array.replicate m undef).getD i undef = xs.getD i undef := by
  rw [Array.getD_eq_getD_getElem?, Array.getElem?_append]
  by_cases h : i < xs.length
  · rw [if_pos (by simpa using h)]; simp [List.getD, h]
  · rw [if_neg (by simpa using h), Array.getElem?_replicate]
    have : xs.getD i undef = undef := by simp [List.getD, List.getElem?_eq_none (Nat.le_of_not_lt h)]
    rw [this]
    split <;> rfl
theorem gt_tE (p : Pth) : gt vu p tE = vu := gt_e vu p
theorem ini_tr {e : Env} {vs : List V} {xs : List Value} (H : Iss e vs xs) (m : Nat) : TR e (iniT vs .z tE) (xs.toArray ++ Array.replicate m undef) := fun q => by
  rw [iniT_gt, getD_append_undef]
  simp only [Pth.n_z, Nat.zero_add, Nat.sub_zero, Nat.zero_le, true_and, gt_tE]
  by_cases h : q.n < vs.length
  · rw [if_pos h]; exact H.get q.n h
  · rw [if_neg h]
    have : xs.getD q.n undef = undef := by simp [List.getD, List.getElem?_eq_none (by rw [H.length]; omega : xs.length ≤ q.n)]
    rw [this]
    exact undef_is
def runR (tmps : Array Value) : ResultVar → Sem Value
  | .tmp t => Pure.pure (tmps.getD t undef)
  | .cell ad t => do loadVar t (← asAddr (tmps.getD ad undef))
section
variable {Y : Lay} {P : Program} {N : Nat} {e : Env} {h : Hp} {w : World} {t : T} {tm : Array Value}
theorem rv_run (H : Rel e h w) (hT : TR e t tm) (hf : t.rf (Pth.ok h.n.n) = true) {rv : ResultVar} {q : RV} {c : V → Ans} {r : RES} (hq : compR P [rv] = some [q]) (hc : rvK t h q c = some r) :
    ∃ v x, c v = some r ∧ (runR tm rv).run P w = .ok x w ∧ Isu e v x ∧ v.ok h.n.n = true := by
  cases rv with
  | tmp i =>
    simp only [compR, Option.map_some, Option.some.injEq, List.cons.injEq, and_true] at hq
    subst hq
    have hc : c (gtV (Pth.of i) t) = some r := hc
    rw [gtV_eq] at hc
    have := hT (Pth.of i)
    rw [Pth.of_n] at this
    exact ⟨_, _, hc, by simp only [runR, Sem.run_pure], this, Tr.rf_gt hf⟩
  | cell ad T =>
    simp only [compR] at hq
    split at hq
    · rename_i n l hn hl
      simp only [Option.some.injEq, List.cons.injEq] at hq
      obtain ⟨rfl, _⟩ := hq
      have hc : (asP (gtV (Pth.of ad) t) fun r o => Option.casesOn n (ld1 (h.gb r) o fun s => c (.s s)) fun n => ldN (h.gb r) o n fun l => c (.agg l)) = some r := hc
      rw [gtV_eq] at hc
      obtain ⟨p, o, hp, hc⟩ := asP_some hc
      have hx := hT (Pth.of ad)
      have hv := Tr.rf_gt (p := Pth.of ad) hf
      rw [hp] at hx hv
      rw [Pth.of_n] at hx
      have hx : tm.getD ad undef = .pointer (some (adr e p o)) := by
        rcases hx with hx | hx
        · cases hx
        · exact hx.eq rfl
      obtain ⟨g1, g2⟩ := H.gb (r := p) hv
      cases n with
      | none =>
        obtain ⟨s, h1, h2, h3⟩ := ld1_out (show ld1 (h.gb p) o (fun s => c (.s s)) = some r from hc)
        obtain ⟨i1, x', i2, i3⟩ := h3 g1 g2
        exact ⟨_, x', h1, by simp [runR, hx, asAddr, loadVar, run_isAgg_none w hn, i2], .inr i3, i1⟩
      | some n =>
        obtain ⟨l', h1, h2, h3, h4⟩ := ldN_out (show ldN (h.gb p) o n (fun l => c (.agg l)) = some r from hc)
        obtain ⟨i1, i2⟩ := h4 g1 g2
        have hcc := run_loadCells_of (P := P) h3 i2
        exact ⟨_, _, h1, by simp [runR, hx, asAddr, loadVar, run_isAgg_some w hn, hcc]; rfl, .inr (.mk _), i1⟩
    · cases hq
theorem rvs_run (H : Rel e h w) (hT : TR e t tm) (hf : t.rf (Pth.ok h.n.n) = true) : ∀ {rvs : List ResultVar} {qs : List RV} {c : List V → Ans} {r : RES}, compR P rvs = some qs → rvsK t h qs c = some r →
    ∃ vs xs, c vs = some r ∧ (rvs.mapM (runR tm)).run P w = .ok xs w ∧ Iss e vs xs ∧ vs.all (V.rf (Pth.ok h.n.n)) = true
  | [], qs, c, r, hq, hc => by
    simp only [compR, Option.some.injEq] at hq; subst hq
    exact ⟨[], [], hc, by simp, .nil, rfl⟩
  | rv :: rvs, qs, c, r, hq, hc => by
    have hsplit : ∃ q l, qs = q :: l ∧ compR P [rv] = some [q] ∧ compR P rvs = some l := by
      cases rv with
      | tmp t =>
        simp only [compR] at hq
        cases h1 : compR P rvs with
        | none => simp [h1] at hq
        | some l => simp only [h1, Option.map_some, Option.some.injEq] at hq; exact ⟨_, l, hq.symm, by simp [compR], rfl⟩
      | cell ad T =>
        simp only [compR] at hq
        split at hq
        · rename_i n l h1 h2; cases hq; exact ⟨_, l, rfl, by simp [compR, h1], h2⟩
        · cases hq
    obtain ⟨q, l, rfl, h1, h2⟩ := hsplit
    obtain ⟨v, x, i1, i2, i3, i4⟩ := rv_run H hT hf h1 (show rvK t h q (fun v => rvsK t h l fun vs => c (v :: vs)) = some r from hc)
    obtain ⟨vs, xs, j1, j2, j3, j4⟩ := rvs_run H hT hf h2 i1
    refine ⟨v :: vs, x :: xs, j1, ?_, .cons i3 j3, by simp only [List.all_cons, Bool.and_eq_true]; exact ⟨i4, j4⟩⟩
    rw [List.mapM_cons]
    simp only [Sem.run_bind, Sem.run_pure]
    rw [i2]
    simp only [Result.andThen_ok, j2]
theorem vcs_out {f : Pth → Bool} {e : Env} : ∀ {vs : List V} {c : List C → Ans} {r : RES}, vcsK vs c = some r → ∃ cs, c cs = some r ∧ cs.length = vs.length ∧ (vs.all (V.rf f) = true → cs.all (C.rf f) = true) ∧ ∀ xs, Iss e vs xs → xs = cs.map (C.tr e)
  | [], c, r, h => ⟨[], h, rfl, fun _ => rfl, fun xs hx => by cases hx; rfl⟩
  | v :: vs, c, r, h => by
    obtain ⟨x, h1, h2, h3, h4, h5, h6⟩ := toC_out (show v.toC (fun x => vcsK vs fun xs => c (x :: xs)) = some r from h)
    obtain ⟨cs, i1, i2, i3, i4⟩ := vcs_out (f := f) (e := e) h1
    refine ⟨x :: cs, i1, by simp [i2], fun hf => ?_, fun xs hx => ?_⟩
    · simp only [List.all_cons, Bool.and_eq_true] at hf ⊢
      exact ⟨h6 _ hf.1, i3 hf.2⟩
    · cases hx with
      | cons k1 k2 =>
        rw [i4 _ k2, List.map_cons, h5]
        congr 1
        rcases k1 with k1 | k1
        · exact absurd k1 h4
        · exact k1.eq h3
theorem res_run {f : Pth → Bool} {vs : List V} {c : V → Ans} {r : RES} {e : Env} {xs : List Value} (h : resK vs c = some r) (hx : Iss e vs xs) (hf : vs.all (V.rf f) = true) : ∃ v, c v = some r ∧ v.rf f = true ∧ Isu e v (if h : xs.toArray.size = 1 then xs.toArray[0] else .tuple xs.toArray) := by
  cases hx with
  | nil => exact ⟨vu, h, rfl, .inr (.inl rfl)⟩
  | @cons v x l m k1 k2 =>
    simp only [List.all_cons, Bool.and_eq_true] at hf
    cases k2 with
    | nil => exact ⟨v, h, hf.1, k1⟩
    | @cons v2 x2 l m k3 k4 =>
      obtain ⟨cs, i1, i2, i3, i4⟩ := vcs_out (f := f) (e := e) (show vcsK (v :: v2 :: l) (fun cs => c (.tup cs)) = some r from h)
      refine ⟨_, i1, i3 (by simp only [List.all_cons, Bool.and_eq_true] at hf ⊢; exact hf), ?_⟩
      rw [dif_neg (by simp)]
      refine .inr (.inl ?_)
      rw [i4 _ (.cons k1 (.cons k3 k4))]; rfl
theorem results_run (H : Rel e h w) (hT : TR e t tm) (hf : t.rf (Pth.ok h.n.n) = true) {fn : Func} {qs : List RV} {c : V → Ans} {r : RES} (hq : compR P fn.results.toList = some qs) (hc : rvsK t h qs (fun vs => resK vs c) = some r) :
    ∃ v x, c v = some r ∧ (results fn tm).run P w = .ok x w ∧ Isu e v x ∧ v.ok h.n.n = true := by
  obtain ⟨vs, xs, h1, h2, h3, h4⟩ := rvs_run H hT hf hq hc
  obtain ⟨v, i1, i2, i3⟩ := res_run h1 h3 h4
  refine ⟨v, _, i1, ?_, i3, i2⟩
  have hres : results fn tm = (do let vs ← fn.results.mapM (runR tm); Pure.pure (if h : vs.size = 1 then vs[0] else .tuple vs)) := by
    unfold results
    congr 1
  have harr : (fn.results.mapM (runR tm)).run P w = .ok xs.toArray w := by
    rw [Array.mapM_eq_mapM_toList]
    simp only [Sem.run_map, h2, Result.andThen_ok]
  rw [hres]
  simp only [Sem.run_bind, harr, Result.andThen_ok, Sem.run_pure]
end
structure Hp.Sim (h h' : Hp) : Prop where
  n : h'.n = h.n
  er : h'.er = h.er
  eq : h'.eq = h.eq
  at_ : ∀ p : Pth, p.n < h.n.n → h'.at p = h.at p
theorem Hp.Sim.refl (h : Hp) : Hp.Sim h h := ⟨rfl, rfl, rfl, fun _ _ => rfl⟩
theorem Hp.Sim.symm {h h' : Hp} (S : Hp.Sim h h') : Hp.Sim h' h := ⟨S.n.symm, S.er.symm, S.eq.symm, fun p hp => (S.at_ p (S.n ▸ hp)).symm⟩
theorem Rel.sim {e : Env} {h h' : Hp} {w : World} (H : Rel e h w) (S : Hp.Sim h h') : Rel e h' w := by
  have hn : ∀ {r : Pth}, r.n < h'.n.n → r.n < h.n.n := fun hr => S.n ▸ hr
  refine ⟨fun r hr => by rw [S.at_ r (hn hr)]; exact H.ok r (hn hr), fun r r' hr hr' => by rw [S.at_ r (hn hr), S.at_ r' (hn hr')]; exact H.sep r r' (hn hr) (hn hr'), fun r hr => by rw [S.at_ r (hn hr), S.n]; exact H.val r (hn hr), fun r hr => by rw [S.at_ r (hn hr), S.er, S.eq]; exact H.esc r (hn hr)⟩
theorem Step.sim {e e' : Env} {h h0 h' h1 : Hp} {w w' : World} (H : Step e h w e' h' w') (A : Hp.Sim h h0) (B : Hp.Sim h' h1) (h3 : h1.fz = h0.fz) (h4 : h1.ch = h0.ch) : Step e h0 w e' h1 w' := by
  have an : h0.n.n = h.n.n := by rw [A.n]
  have bn : h1.n.n = h'.n.n := by rw [B.n]
  refine ⟨H.rel.sim B, h3, h4, by rw [an]; exact H.agr, by rw [an, bn]; exact H.le, H.os, H.tape, H.output, H.size, fun b hb hk => H.keep b hb fun r hr hw => hk r (by rw [an]; exact hr) (by rw [A.at_ r hr]; exact hw), fun r hr hw => ?_, fun r hr hw => ?_⟩
  · rw [bn] at hr
    rw [B.at_ r hr] at hw
    rcases H.mine r hr hw with ⟨q, q1, q2, q3⟩ | q
    · exact .inl ⟨q, by rw [an]; exact q1, by rw [A.at_ q q1]; exact q2, q3⟩
    · exact .inr q
  · rw [bn] at hr
    rw [B.at_ r hr] at hw
    rcases H.nd r hr hw with ⟨q, q1, q2, q3⟩ | q
    · exact .inl ⟨q, by rw [an]; exact q1, by rw [A.at_ q q1]; exact q2, q3⟩
    · exact .inr q
def ProgOk (Y : Lay) (P : Program) (prog : Tr FJ) : Prop := ∀ f : Pth, gtF f prog = fdef ∨ ∃ (fn : Func) (c : Code), P.funcs[f.n]? = some fn ∧ (fn.name == "runtime.NumGoroutine") = false ∧ fn.body = some c ∧ compC Y P fn.ntmps c = some (gtF f prog).body ∧ compR P fn.results.toList = some (gtF f prog).res
def kapE (Y : Lay) (P : Program) : Nat → Code → DJ → Prop := fun M c d => ∃ N, N ≤ M ∧ compC Y P N c = some d ∧ d.smp = true
def kp (Y : Lay) (P : Program) (ζ : (Nat → Int) × Nat) : KP := ⟨kapE Y P, ζ.1, ζ.2⟩
theorem kapE_hk (Y : Lay) (P : Program) : ∀ N c d, compC Y P N c = some d → d.smp = true → ∀ M, N ≤ M → kapE Y P M c d := fun N _ _ h1 h2 _ hM => ⟨N, hM, h1, h2⟩
def RdOk (Y : Lay) (P : Program) (ζ : (Nat → Int) × Nat) (rd : Pth → List V → Hp → Ans) : Prop :=
  ∀ f args h r, rd f args h = some r → ∀ e w xs, EK e (kp Y P ζ) → Rel e h w → Gl Y e (Pth.ok h.n.n) → args.all (V.rf (Pth.ok h.n.n)) = true → Iss e args xs →
    FnOk P f.n ∧ ∀ n u, CallsDIn Fence.wide n P f.n xs.toArray u w fun en u' w' => u' = u ∧ ret (Post e h w r) en w'
def DrwAll (Y : Lay) (P : Program) (ζ : (Nat → Int) × Nat) (cal : Cal) : Prop := ∀ N M ro n, N ≤ M → DrwOk Y P N M (kp Y P ζ) cal ro n
theorem kOf_noK {kr : KT} {ex : Exit} {k : KT} {t : T} {h : Hp} {r : RES} (hk : kOf kr kr (fun _ _ _ => none) ex = some k) (hr : k t h = some r) : k = kr ∧ (ex = .normal ∨ ex = .ret) := by
  cases ex with
  | normal => cases hk; exact ⟨rfl, .inl rfl⟩
  | ret => cases hk; exact ⟨rfl, .inr rfl⟩
  | exit id =>
    simp only [kOf] at hk
    split at hk
    · cases hk; cases hr
    · cases hk
  | goto l => cases hk; cases hr
  | panic c => cases hk
  | outgrown => cases hk
section
variable {Y : Lay} {P : Program} {ζ : (Nat → Int) × Nat} {cal : Cal} {prog : Tr FJ}
theorem body_wp (HC : CalOk Y P (kp Y P ζ) cal) (HD : DrwAll Y P ζ cal) {N : Nat} {c : Code} {d : DJ} (hc : compC Y P N c = some d) {args : List V} {hA : Hp} {kr : KT} {r : RES} (hdf : hA.df = []) (hr : exD d cal (iniT args .z tE) hA kr kr (fun _ _ _ => none) = some r)
    {e : Env} {w : World} {xs : List Value} (hκ : EK e (kp Y P ζ)) (hR : Rel e hA w) (hG : Gl Y e (Pth.ok hA.n.n)) (hf : args.all (V.rf (Pth.ok hA.n.n)) = true) (hx : Iss e args xs) {n : Nat} {Q : Exit → Act → World → Prop}
    (hQ : ∀ ex, ex = .normal ∨ ex = .ret → ∀ M e' h' t' a' w' r', Step e hA w e' h' w' → TS P M e' h' t' a' → kr t' h' = some r' → Lk hA r r' → Q ex a' w') :
    c.wpIn Fence.wide n P Q { tmps := xs.toArray ++ Array.replicate (N - xs.toArray.size) undef, defers := [] } w := by
  obtain ⟨M, hM⟩ : ∃ M, M = (xs.toArray ++ Array.replicate (N - xs.toArray.size) undef).size := ⟨_, rfl⟩
  have hNM : N ≤ M := by rw [hM]; simp; omega
  have hS : St0 Y P M (kp Y P ζ) e hA (iniT args .z tE) { tmps := xs.toArray ++ Array.replicate (N - xs.toArray.size) undef, defers := [] } w :=
    ⟨hκ, hR, hG, ⟨hM.symm, ini_tr hx _, iniT_rf hf Tr.rf_e, by rw [hdf]; exact All2.nil⟩⟩
  refine wpIn_mono (F := wd none) (exD_snd hNM HC (kapE_hk Y P) c d hc none (HD N M none n hNM) (.inl rfl) _ hA kr kr _ r hr e _ w hS) ?_
  intro ex a' w' hq
  obtain ⟨k, hk, e', h', t', i1, i2, r', i3, i4⟩ := hq.out
  obtain ⟨rfl, hex⟩ := kOf_noK hk i3
  exact hQ ex hex M e' h' t' a' w' r' i1 i2 i3 i4
theorem Lk.no {h : Hp} {r r' : RES} (hc : h.ch = false) (H : Lk h r r') : r' = r := by
  rcases H with H | ⟨h1, _⟩
  · exact H
  · rw [hc] at h1; cases h1
theorem dfR_nil {e : Env} {n : Nat} {ds : List Deferred} (H : DfR P e n [] ds) : ds = [] := by cases H; rfl
theorem runD_snd (HP : ProgOk Y P prog) (HC : CalOk Y P (kp Y P ζ) cal) (HD : DrwAll Y P ζ cal) : RdOk Y P ζ (runD prog cal) := by
  intro f args h r hr e w xs hκ hR hG hf hx
  obtain ⟨b, n0, er, eq, fz, df, ch⟩ := h
  rcases hpf : gtF f prog with ⟨fr, body, res⟩
  unfold runD at hr
  rw [hpf] at hr
  simp only [iniK_eq] at hr
  rcases HP f with hfd | ⟨fn, c, h1, h2, h3, h4, h5⟩
  · rw [hpf] at hfd
    cases hfd
    cases hr
  rw [hpf] at h4 h5
  refine ⟨⟨fn, h1, by rw [h3]; rfl, h2⟩, fun n u => ?_⟩
  have hA : Hp.Sim (Hp.mk b n0 er eq fz df ch) (Hp.mk b n0 er eq fz [] false) := ⟨rfl, rfl, rfl, fun _ _ => rfl⟩
  refine callsDIn_of_wp h1 h3 trivial ?_
  refine body_wp HC HD h4 (hA := Hp.mk b n0 er eq fz [] false) rfl hr hκ (hR.sim hA) hG hf hx ?_
  intro ex hex M e' h' t' a' w' r' i1 i2 i3 i4
  obtain ⟨b', n', er', eq', fz', df', ch'⟩ := h'
  have hrr := i4.no rfl
  subst hrr
  have i3 : (List.casesOn df' (rvsK t' (Hp.mk b' n' er' eq' fz' df' ch') res fun vs => resK vs fun v => some (v, Hp.mk b' n' er' eq' fz df ch)) fun _ _ => none : Ans) = some r' := i3
  cases df' with
  | cons _ _ => cases i3
  | nil =>
    obtain ⟨v, x, j1, j2, j3, j4⟩ := results_run i1.rel i2.tr i2.rf h5 i3
    cases j1
    have hd := dfR_nil i2.df
    have B : bodyPost P fn (ret (Post e (Hp.mk b n0 er eq fz df ch) w (v, Hp.mk b' n' er' eq' fz df ch))) .ret a' w' := ⟨hd, x, j2, x, rfl, e', i1.sim hA.symm ⟨rfl, rfl, rfl, fun _ _ => rfl⟩ rfl rfl, rfl, j3, j4⟩
    rcases hex with rfl | rfl
    · exact B
    · exact B
theorem df_snd {rd : Pth → List V → Hp → Ans} (HR : RdOk Y P ζ rd) {fn : Func} {tm : Array Value} {R : Ending → World → Prop} {n : Nat} : ∀ (df : List DF) (ds : List Deferred) (h : Hp) (c : Hp → Ans) (r : RES), h.df = [] → dfK rd df h c = some r →
    ∀ (e : Env) (w : World), EK e (kp Y P ζ) → Rel e h w → Gl Y e (Pth.ok h.n.n) → DfR P e h.n.n df ds → (∀ e' h' w', c h' = some r → Step e h w e' h' w' → h'.df = [] → LeavesInM Fence.wide n P fn tm R [] .returning w') → LeavesInM Fence.wide n P fn tm R ds .returning w
  | [], ds, h, c, r, hdf, hr, e, w, hκ, hR, hG, hD, hQ => by
    rw [dfR_nil hD]
    exact hQ e h w hr (.refl hR) hdf
  | .mk q :: df, ds, h, c, r, hdf, hr, e, w, hκ, hR, hG, hD, hQ => by
    cases hD with
    | @cons _ x _ l k1 k2 =>
      obtain ⟨k1, rfl⟩ := k1
      have hr : dqK (h.gb q) (h.setK q .dd fun h => dfK rd df h c) = some r := hr
      have hat : h.gb q = .dq ∧ (h.setK q .dd fun h => dfK rd df h c) = some r := by
        cases hb : h.gb q <;> rw [hb] at hr <;> first | exact ⟨rfl, hr⟩ | cases hr
      obtain ⟨hat, hr⟩ := hat
      rw [Hp.setK_eq] at hr
      rw [Hp.gb_eq] at hat
      have hok := hR.ok q k1
      rw [hat] at hok
      have hok : w.heap[(e.σ q).1]? = some (.deferred (some [])) := hok
      have S : Step e h w e (h.set q .dd) (w.putObj (e.σ q).1 (.deferred none)) :=
        Step.upd hR k1 (by rw [hat]; rfl) trivial rfl rfl (fun b hb => World.putObj_heap_other hb) (by simp) rfl rfl rfl
      refine ⟨by simp, .inl ⟨(e.σ q).1, _, rfl, run_takeDeferred hok, ?_⟩⟩
      exact df_snd HR df l (h.set q .dd) c r hdf hr e _ hκ S.rel (hG.step S) k2 fun e' h' w' i1 i2 i3 => hQ e' h' w' i1 (S.trans i2) i3
  | .fn f args :: df, ds, h, c, r, hdf, hr, e, w, hκ, hR, hG, hD, hQ => by
    cases hD with
    | @cons _ x _ l k1 k2 =>
      obtain ⟨k1, xs, k3, rfl⟩ := k1
      obtain ⟨⟨v, h1⟩, hr1, hr2⟩ := onO_some (show onO (rd f args h) (fun r => Prod.casesOn r fun _ h => dfK rd df h c) = some r from hr)
      have hr2 : dfK rd df h1 c = some r := hr2
      obtain ⟨hok, hcall⟩ := HR f args h _ hr1 e w xs hκ hR hG k1 k3
      refine ⟨by simp, .inr ⟨fun hd => by simp [Fence.wide] at hd, .func f.n, #[], f.n, xs.toArray, rfl, by simp [invoke, callFunc_run hok], fun g _ => trivial, ?_⟩⟩
      refine CallsDIn.mono (hcall (n - 1) .returning) ?_
      rintro en u' w' ⟨rfl, x, rfl, e', i1, i2, i3, i4⟩
      have i2 : h1.df = h.df := i2
      exact df_snd HR df l h1 c r (i2.trans hdf) hr2 e' w' (hκ.agr i1.agr) i1.rel (hG.step i1) (DfR.agr (P := P) i1.agr i1.le k2) fun e2 h2 w2 j1 j2 j3 => hQ e2 h2 w2 j1 (i1.trans j2) j3
end
section
variable {Y : Lay} {P : Program} {ζ : (Nat → Int) × Nat} {cal : Cal} {prog : Tr FJ}
theorem fin_snd {e e' : Env} {h h0 h' : Hp} {w w' : World} {v : V} {x : Value} {fz : Nat} {df : List DF} {ch : Bool} {r : RES} (h3 : fz = h.fz) (h4 : ch = h.ch) (h5 : df = h.df) (hr : finK h.n fz df ch v h' = some r) (A : Hp.Sim h h0) (S : Step e h0 w e' h' w') (hv : Isu e' v x) (hok : v.ok h'.n.n = true) : Post e h w r x w' := by
  obtain ⟨b, n', er, eq, fz', df', ch'⟩ := h'
  subst h3 h4 h5
  have hr : (fN h.n.n fun m => Bool.casesOn (and (v.ok m) (or (Nat.ble m er) (Nat.blt eq m))) (some (v, Hp.mk b n' er eq h.fz h.df h.ch)) (some (v, Hp.mk b h.n er eq h.fz h.df h.ch)) : Ans) = some r := hr
  rw [fN_eq] at hr
  have S1 : Step e h w e' (Hp.mk b n' er eq h.fz h.df h.ch) w' := S.sim A.symm ⟨rfl, rfl, rfl, fun _ _ => rfl⟩ rfl rfl
  cases hc : (and (v.ok h.n.n) (or (Nat.ble h.n.n er) (Nat.blt eq h.n.n))) with
  | false =>
    rw [hc] at hr
    cases hr
    exact ⟨e', S1, rfl, hv, hok⟩
  | true =>
    rw [hc] at hr
    cases hr
    obtain ⟨c1, c2⟩ := and_t hc
    exact ⟨e', S1.cut (h' := Hp.mk b n' er eq h.fz h.df h.ch) c2, rfl, hv, c1⟩
theorem runF_snd (HP : ProgOk Y P prog) (HC : CalOk Y P (kp Y P ζ) cal) (HD : DrwAll Y P ζ cal) {f : Pth} {args : List V} {h : Hp} {r : RES} (hr : runF prog cal f args h = some r) {e : Env} {w : World} {xs : List Value} (hκ : EK e (kp Y P ζ)) (hR : Rel e h w) (hG : Gl Y e (Pth.ok h.n.n))
    (hf : args.all (V.rf (Pth.ok h.n.n)) = true) (hx : Iss e args xs) : FnOk P f.n ∧ Calls P f.n xs.toArray w (ret (Post e h w r)) := by
  obtain ⟨b, n0, er, eq, fz, df, ch⟩ := h
  rcases hpf : gtF f prog with ⟨fr, body, res⟩
  unfold runF at hr
  rw [hpf] at hr
  simp only [iniK_eq] at hr
  rcases HP f with hfd | ⟨fn, c, h1, h2, h3, h4, h5⟩
  · rw [hpf] at hfd
    cases hfd
    cases hr
  rw [hpf] at h4 h5
  refine ⟨⟨fn, h1, by rw [h3]; rfl, h2⟩, (callsIn_wide (n := 0)).1 (callsIn_of_wp_marks h1 h3 trivial ?_)⟩
  cases fr with
  | false =>
    have hA : Hp.Sim (Hp.mk b n0 er eq fz df ch) (Hp.mk b n0 er eq fz [] false) := ⟨rfl, rfl, rfl, fun _ _ => rfl⟩
    refine body_wp HC HD h4 (hA := Hp.mk b n0 er eq fz [] false) rfl hr hκ (hR.sim hA) hG hf hx ?_
    intro ex hex M e' h' t' a' w' r' i1 i2 i3 i4
    have hrr := i4.no rfl
    subst hrr
    obtain ⟨b', n', er', eq', fz', df', ch'⟩ := h'
    have i3 : dfK (runD prog cal) df' (Hp.mk b' n' er' eq' fz' [] ch') (fun h => rvsK t' h res fun vs => resK vs fun v => finK n0 fz df ch v h) = some r' := i3
    have hB : Hp.Sim (Hp.mk b' n' er' eq' fz' df' ch') (Hp.mk b' n' er' eq' fz' [] ch') := ⟨rfl, rfl, rfl, fun _ _ => rfl⟩
    have S1 : Step e (Hp.mk b n0 er eq fz [] false) w e' (Hp.mk b' n' er' eq' fz' [] ch') w' := i1.sim (.refl _) hB i1.fz i1.ch
    have B : LeavesInM Fence.wide 0 P fn a'.tmps (ret (Post e (Hp.mk b n0 er eq fz df ch) w r')) a'.defers .returning w' := by
      refine df_snd (runD_snd HP HC HD) df' a'.defers (Hp.mk b' n' er' eq' fz' [] ch') _ r' rfl i3 e' w' (hκ.agr i1.agr) S1.rel (Gl.step (h := Hp.mk b n0 er eq fz [] false) hG S1) i2.df ?_
      intro e2 h2 w2 j1 j2 j3
      have hT : TR e2 t' a'.tmps := j2.agr.t i2.rf i2.tr
      obtain ⟨v, x, k1, k2, k3, k4⟩ := results_run j2.rel hT (Tr.ok_mono j2.le i2.rf) h5 j1
      exact ⟨x, k2, x, rfl, fin_snd (h := Hp.mk b n0 er eq fz df ch) rfl rfl rfl k1 hA (S1.trans j2) k3 k4⟩
    rcases hex with rfl | rfl
    · exact B
    · exact B
  | true =>
    have hr : (fN n0.n fun m => onO (exD body cal (iniT args .z tE) (Hp.mk b n0 er eq m [] true) (fun t h => Hp.casesOn h fun b' n' er' eq' fz' df' ch' => List.casesOn df' (rvsK t (Hp.mk b' n' er' eq' fz' df' ch') res fun vs => resK vs fun v => onB (v.ok m) (some (v, Hp.mk b' n' er' eq' fz' df' ch')) none) fun _ _ => none) (fun t h => Hp.casesOn h fun b' n' er' eq' fz' df' ch' => List.casesOn df' (rvsK t (Hp.mk b' n' er' eq' fz' df' ch') res fun vs => resK vs fun v => onB (v.ok m) (some (v, Hp.mk b' n' er' eq' fz' df' ch')) none) fun _ _ => none) fun _ _ _ => none) fun r => Prod.casesOn r fun v h => Hp.casesOn h fun b _ er eq _ _ _ => onB (or (Nat.ble m er) (Nat.blt eq m)) (some (v, Hp.mk b n0 er eq fz df ch)) none) = some r := hr
    rw [fN_eq] at hr
    obtain ⟨⟨v0, b1, n1, er1, eq1, fz1, df1, ch1⟩, hr1, hr2⟩ := onO_some hr
    obtain ⟨hsafe, hr3⟩ := onB_t (show onB (or (Nat.ble n0.n er1) (Nat.blt eq1 n0.n)) (some (v0, Hp.mk b1 n0 er1 eq1 fz df ch)) none = some r from hr2)
    cases hr3
    have hA : Hp.Sim (Hp.mk b n0 er eq fz df ch) (Hp.mk b n0 er eq n0.n [] true) := ⟨rfl, rfl, rfl, fun _ _ => rfl⟩
    refine body_wp HC HD h4 (hA := Hp.mk b n0 er eq n0.n [] true) rfl hr1 hκ (hR.sim hA) hG hf hx ?_
    intro ex hex M e' h' t' a' w' r' i1 i2 i3 i4
    obtain ⟨b', n', er', eq', fz', df', ch'⟩ := h'
    have i3 : (List.casesOn df' (rvsK t' (Hp.mk b' n' er' eq' fz' df' ch') res fun vs => resK vs fun v => onB (v.ok n0.n) (some (v, Hp.mk b' n' er' eq' fz' df' ch')) none) fun _ _ => none : Ans) = some r' := i3
    cases df' with
    | cons _ _ => cases i3
    | nil =>
      obtain ⟨v, x, j1, j2, j3, j4⟩ := results_run i1.rel i2.tr i2.rf h5 i3
      obtain ⟨hvok, j1⟩ := onB_t j1
      cases j1
      have hd := dfR_nil i2.df
      have hlk : v = v0 ∧ er' = er1 ∧ eq' = eq1 ∧ ∀ p : Pth, p.n < n0.n → (Hp.mk b' n' er' eq' fz' [] ch').at p = (Hp.mk b1 n1 er1 eq1 fz1 df1 ch1).at p := by
        rcases i4 with i4 | ⟨_, k1, k2, k3, k4⟩
        · cases i4; exact ⟨rfl, rfl, rfl, fun _ _ => rfl⟩
        · exact ⟨k1, k2, k3, k4⟩
      obtain ⟨rfl, rfl, rfl, hat⟩ := hlk
      have S2 := i1.cut (h' := Hp.mk b' n' er' eq' fz' [] ch') hsafe
      have S3 : Step e (Hp.mk b n0 er eq fz df ch) w e' (Hp.mk b1 n0 er' eq' fz df ch) w' := S2.sim hA.symm ⟨rfl, rfl, rfl, fun p hp => (hat p hp).symm⟩ rfl rfl
      have B : LeavesInM Fence.wide 0 P fn a'.tmps (ret (Post e (Hp.mk b n0 er eq fz df ch) w (v, Hp.mk b1 n0 er' eq' fz df ch))) a'.defers .returning w' := by
        rw [hd]
        exact ⟨x, j2, x, rfl, e', S3, rfl, j3, hvok⟩
      rcases hex with rfl | rfl
      · exact B
      · exact B
end
def bindT : List Pth → List V → T → T
  | p :: ps, v :: vs, t => bindT ps vs (st vu p v t)
  | _, _, t => t
theorem bindK_out : ∀ {ps : List Pth} {vs : List V} {t : T} {c : T → Ans} {r : RES}, bindK ps vs t c = some r → ps.length = vs.length ∧ c (bindT ps vs t) = some r
  | [], [], t, c, r, h => ⟨rfl, h⟩
  | [], _ :: _, t, c, r, h => by cases h
  | _ :: _, [], t, c, r, h => by cases h
  | p :: ps, v :: vs, t, c, r, h => by
    have h : stK vu p t v (fun t => bindK ps vs t c) = some r := h
    rw [stK_eq] at h
    obtain ⟨h1, h2⟩ := bindK_out h
    exact ⟨by simp [h1], h2⟩
theorem bindT_cons (p : Pth) (ps : List Pth) (v : V) (vs : List V) (t : T) : bindT (p :: ps) (v :: vs) t = bindT ps vs (st vu p v t) := rfl
theorem bind_tr {e : Env} {f : Pth → Bool} {ps : List Pth} : ∀ {vs : List V} {xs : List Value} {t : T} {tm : Array Value}, TR e t tm → Iss e vs xs → ps.length = vs.length → (∀ p ∈ ps, p.n < tm.size) → t.rf f = true → vs.all (V.rf f) = true →
    TR e (bindT ps vs t) (((ps.map Pth.n).zip xs).foldl (fun tmps x => tmps.setIfInBounds x.1 x.2) tm) ∧ (((ps.map Pth.n).zip xs).foldl (fun tmps x => tmps.setIfInBounds x.1 x.2) tm).size = tm.size ∧ (bindT ps vs t).rf f = true := by
  induction ps with
  | nil =>
    intro vs xs t tm hT hx hl hb hf hv
    cases vs with
    | nil => exact ⟨hT, rfl, hf⟩
    | cons _ _ => cases hl
  | cons p ps ih =>
    intro vs xs t tm hT hx hl hb hf hv
    cases hx with
    | nil => cases hl
    | @cons v x vs xs h1 h2 =>
      simp only [List.all_cons, Bool.and_eq_true] at hv
      have hp := hb p List.mem_cons_self
      have hT2 : TR e (st vu p v t) (tm.setIfInBounds p.n x) := fun q => by
        rw [gt_st]
        by_cases hq : q = p
        · rw [if_pos hq, hq]
          have : (tm.setIfInBounds p.n x).getD p.n undef = x := by simp [Array.getD, hp]
          rw [this]; exact h1
        · rw [if_neg hq]
          have : (tm.setIfInBounds p.n x).getD q.n undef = tm.getD q.n undef := by
            have hne : p.n ≠ q.n := fun c => hq (Pth.inj c.symm)
            simp [Array.getD_eq_getD_getElem?, Array.getElem?_setIfInBounds, hne]
          rw [this]; exact hT q
      have hf2 := Tr.rf_st (p := p) hf hv.1
      rw [bindT_cons]
      obtain ⟨t2, ht2⟩ : ∃ t2, t2 = st vu p v t := ⟨_, rfl⟩
      rw [← ht2] at hT2 hf2 ⊢
      obtain ⟨i1, i2, i3⟩ := ih hT2 h2 (by simpa using hl) (fun q hq => by simpa using hb q (List.mem_cons_of_mem _ hq)) hf2 hv.2
      exact ⟨i1, by simpa using i2, i3⟩
theorem gtB_eq' (h : Hp) (r : Pth) : gtB r h.b = h.gb r := rfl
section
variable {Y : Lay} {P : Program} {ζ : (Nat → Int) × Nat} {cal : Cal}
theorem rndE_snd {e e' : Env} {h h0 h' : Hp} {w w' : World} {l : Nat} {q : Pth} {st : Nat} {pd : Option (Option Nat)} {jump : Option Code} {r : RES} (hr : rndE h.n h.fz h.df h.ch q st pd jump.isNone h' = some r) (A : Hp.Sim h h0) (S : Step e h0 w e' h' w') (hq : q.n < h.n.n) (hl : (e.σ q).1 = l)
    (hst : stL st = if jump.isNone then LoopState.ready else LoopState.done) (hj : Jmp pd jump) : ∃ v w2, (Instr.endRound l jump).run P w' = .ok v w2 ∧ ret (Post e h w r) (.returned v) w2 := by
  obtain ⟨t, ps, asg, body, st0, pd0, hlp, hr2⟩ := lpK_some (show lpK (h'.gb q) _ = some r from hr)
  rw [Hp.setK_eq] at hr2
  have hn0 : h0.n = h.n := A.n
  have hlt : q.n < h'.n.n := by have := S.le; rw [hn0] at this; omega
  have hat : h'.at q = .lp t ps asg body st0 pd0 := by rw [← Hp.gb_eq]; exact hlp
  have hok := S.rel.ok q hlt
  rw [hat] at hok
  obtain ⟨L, j1, j2, j3, j4, j5, j6, j7, j8⟩ := hok
  have hσ : (e'.σ q).1 = l := by rw [S.agr.σ q (by rw [hn0]; exact hq)]; exact hl
  have j1' : w'.heap[l]? = some (.loop L) := by rw [← hσ]; exact j1
  refine ⟨_, _, run_endRound jump j1', _, rfl, ?_⟩
  have hl3 : l < w'.heap.size := (Array.getElem?_eq_some_iff.1 j1').1
  have S2 : Step e' h' w' e' (h'.set q (.lp t ps asg body st pd)) (w'.putObj l (.loop { L with state := if jump.isNone then .ready else .done, pending := jump })) := by
    refine Step.upd S.rel hlt (by rw [hat]; rfl) ⟨{ L with state := if jump.isNone then .ready else .done, pending := jump }, ?_, hst.symm, hj, j4, j5, j6, j7, j8⟩ ?_ ?_ (fun b hb => World.putObj_heap_other (by rw [hσ] at hb; exact hb)) (by simp) rfl rfl rfl
    · rw [hσ]; exact World.putObj_heap_same hl3
    · have := S.rel.val q hlt; rw [hat] at this; exact this
    · have := S.rel.esc q hlt; rw [hat] at this; exact this
  obtain ⟨b', n', er', eq', fz', df', ch'⟩ := h'
  have hr3 : finK h.n h.fz h.df h.ch (.s (.b jump.isNone)) { (Hp.mk b' n' er' eq' fz' df' ch').set q (.lp t ps asg body st pd) with df := [] } = some r := hr2
  have S3 := (S.trans S2).sim (h1 := { (Hp.mk b' n' er' eq' fz' df' ch').set q (.lp t ps asg body st pd) with df := [] }) (.refl _) ⟨rfl, rfl, rfl, fun _ _ => rfl⟩ (S.trans S2).fz (S.trans S2).ch
  exact fin_snd rfl rfl rfl hr3 A S3 (.inr (.inl rfl)) rfl
theorem rnd_snd (HC : CalOk Y P (kp Y P ζ) cal) (HD : DrwAll Y P ζ cal) {q : Pth} {args : List V} {h : Hp} {r : RES} (hr : rndF cal q args h = some r) {e : Env} {w : World} {xs : List Value} (hκ : EK e (kp Y P ζ)) (hR : Rel e h w) (hG : Gl Y e (Pth.ok h.n.n)) (hq : q.ok h.n.n = true)
    (hf : args.all (V.rf (Pth.ok h.n.n)) = true) (hx : Iss e args xs) : CallS P e (.yl q) xs.toArray w (Post e h w r) := by
  have hqn := Pth.ok_iff.1 hq
  obtain ⟨hA, hhA⟩ : ∃ hA : Hp, hA = { h with df := [], ch := false } := ⟨_, rfl⟩
  obtain ⟨t, ps, asg, body, st, pend, hlp, hr1⟩ : ∃ t ps asg body st pend, h.gb q = .lp t ps asg body st pend ∧ onB (Nat.beq st 0)
    (bindK ps args t fun t1 => exD asg cal t1 hA
      (fun t2 h2 => lpK (h2.gb q) fun t ps asg body' st pend => onB (Nat.beq st 0) (h2.setK q (.lp t ps asg body' 1 pend) fun h2 =>
        exD body cal t2 h2 (fun _ h' => rndE h.n h.fz h.df h.ch q 0 none true h') (fun _ h' => rndE h.n h.fz h.df h.ch q 2 (some none) false h') fun id _ h' => rndE h.n h.fz h.df h.ch q 2 (some (some id)) false h') none) noK fun _ => noK) none = some r := by
    rw [hhA]
    obtain ⟨b, n, er, eq, fz, df, ch⟩ := h
    exact lpK_some (show lpK (gtB q b) _ = some r from hr)
  obtain ⟨hst, hr2⟩ := onB_t hr1
  obtain ⟨hlen, hr3⟩ := bindK_out hr2
  clear hr hr1 hr2
  have hat : h.at q = .lp t ps asg body st pend := by rw [← Hp.gb_eq]; exact hlp
  have hok := hR.ok q hqn
  rw [hat] at hok
  obtain ⟨L, j1, j2, j3, j4, j5, j6, j7, j8⟩ := hok
  have htf : t.rf (Pth.ok h.n.n) = true := by have := hR.val q hqn; rw [hat] at this; exact this
  obtain ⟨b1, b2, b3⟩ := bind_tr j4 hx hlen j8 htf hf
  rw [← j5] at b1 b2
  have hsz : xs.toArray.size = L.params.size := by
    have h1 : L.params.toList.length = ps.length := by rw [j5]; simp
    have h2 := hx.length
    simp only [List.size_toArray]
    rw [h2, ← hlen, ← h1]; simp
  have hfold : (L.params.zip xs.toArray).foldl (fun tmps x => tmps.setIfInBounds x.1 x.2) L.tmps = (L.params.toList.zip xs).foldl (fun tmps x => tmps.setIfInBounds x.1 x.2) L.tmps := by
    rw [← Array.foldl_toList, Array.toList_zip]
  have hAS : Hp.Sim h hA := by rw [hhA]; exact ⟨rfl, rfl, rfl, fun _ _ => rfl⟩
  have hAn : hA.n = h.n := hAS.n
  refine ⟨L.fn, _, L.assign, L.body, run_yield j1 hsz, fun n => roundIn_of_wpIn trivial ?_⟩
  have hfold2 : (L.params.zip xs.toArray).foldl (fun tmps (x : Tmp × Value) => match x with | (t, a) => tmps.setIfInBounds t a) L.tmps = (L.params.toList.zip xs).foldl (fun tmps x => tmps.setIfInBounds x.1 x.2) L.tmps := hfold
  rw [hfold2]
  generalize (L.params.toList.zip xs).foldl (fun tmps x => tmps.setIfInBounds x.1 x.2) L.tmps = tm at b1 b2
  rw [hκ.1] at j6 j7
  obtain ⟨N1, n1, c1, s1⟩ := j6
  obtain ⟨N2, n2, c2, s2⟩ := j7
  obtain ⟨l, hl⟩ : ∃ l, l = (e.σ q).1 := ⟨_, rfl⟩
  rw [← hl]
  have hS : St0 Y P L.tmps.size (kp Y P ζ) e hA (bindT ps args t) { tmps := tm, defers := [] } w :=
    ⟨hκ, hR.sim hAS, by rw [hAn]; exact hG, ⟨b2, b1, by rw [hAn]; exact b3, by rw [hhA]; exact All2.nil⟩⟩
  refine wpIn_mono (F := wd (some l)) (exD_snd n1 HC (kapE_hk Y P) L.assign asg c1 (some l) (HD N1 L.tmps.size (some l) n n1) (.inr s1) _ hA _ noK (fun _ => noK) r hr3 e _ w hS) ?_
  intro ex a1 w1 hqe
  obtain ⟨k, hk, e1, h1, t1, i1, i2, r1, i3, i4⟩ := hqe.out
  have hno : ∀ {t : T} {h : Hp} {r : RES}, noK t h = some r → False := fun h => by cases h
  cases ex with
  | ret => cases hk; exact (hno i3).elim
  | exit id =>
    simp only [kOf] at hk
    split at hk
    · cases hk; exact (hno i3).elim
    · cases hk
  | goto l => cases hk; exact (hno i3).elim
  | panic c => cases hk
  | outgrown => cases hk
  | normal =>
    cases hk
    have hrr := i4.no (by rw [hhA])
    subst hrr
    obtain ⟨t', ps', asg', body', st', pd', hlp', i5⟩ := lpK_some i3
    obtain ⟨hst', i6⟩ := onB_t i5
    rw [Hp.setK_eq] at i6
    have hlt : q.n < h1.n.n := by have := i1.le; rw [hAn] at this; omega
    have hat' : h1.at q = .lp t' ps' asg' body' st' pd' := by rw [← Hp.gb_eq]; exact hlp'
    have hok' := i1.rel.ok q hlt
    rw [hat'] at hok'
    obtain ⟨L', k1, k2, k3, k4, k5, k6, k7, k8⟩ := hok'
    have hσ : (e1.σ q).1 = l := by rw [i1.agr.σ q (by rw [hAn]; exact hqn)]; exact hl.symm
    have k1' : w1.heap[l]? = some (.loop L') := by rw [← hσ]; exact k1
    have hrdy : L'.state = .ready := by rw [k2, nat_eq hst']; rfl
    have hl3 : l < w1.heap.size := (Array.getElem?_eq_some_iff.1 k1').1
    refine ⟨_, run_beginRound k1' hrdy, ?_⟩
    have S2 : Step e1 h1 w1 e1 (h1.set q (.lp t' ps' asg' body' 1 pd')) (w1.putObj l (.loop { L' with state := .busy })) := by
      refine Step.upd i1.rel hlt (by rw [hat']; rfl) ⟨{ L' with state := .busy }, ?_, rfl, k3, k4, k5, k6, k7, k8⟩ ?_ ?_ (fun b hb => World.putObj_heap_other (by rw [hσ] at hb; exact hb)) (by simp) rfl rfl rfl
      · rw [hσ]; exact World.putObj_heap_same hl3
      · have := i1.rel.val q hlt; rw [hat'] at this; exact this
      · have := i1.rel.esc q hlt; rw [hat'] at this; exact this
    have S3 := i1.trans S2
    have hS2 : St0 Y P L.tmps.size (kp Y P ζ) e1 (h1.set q (.lp t' ps' asg' body' 1 pd')) t1 a1 (w1.putObj l (.loop { L' with state := .busy })) := hS.step S3 (i2.step S2 (DfR.agr (P := P) (Agr.refl _ _) (Nat.le_refl _) i2.df))
    refine wpIn_mono (F := wd (some l)) (exD_snd n2 HC (kapE_hk Y P) L.body body c2 (some l) (HD N2 L.tmps.size (some l) n n2) (.inr s2) _ _ _ _ _ r1 i6 e1 _ _ hS2) ?_
    intro ex a2 w2 hq2
    obtain ⟨k, hk, e2, h2, t2, m1, m2, r2, m3, m4⟩ := hq2.out
    have hrr := m4.no (by show h1.ch = false; rw [i1.ch, hhA])
    subst hrr
    have S4 := S3.trans m1
    cases ex with
    | normal => cases hk; exact rndE_snd (jump := none) m3 hAS S4 hqn hl.symm rfl trivial
    | ret => cases hk; exact rndE_snd (jump := some .ret) m3 hAS S4 hqn hl.symm rfl trivial
    | exit id =>
      simp only [kOf] at hk
      split at hk
      · rename_i hid
        cases hk
        exact rndE_snd (jump := some (.exit id)) m3 hAS S4 hqn hl.symm rfl ⟨rfl, hid⟩
      · cases hk
    | goto g => cases hk; exact rndE_snd (jump := some (.goto g)) m3 hAS S4 hqn hl.symm rfl rfl
    | panic c => cases hk
    | outgrown => cases hk
end
theorem apV_eq (b : List V) : ∀ a : List V, apV a b = a ++ b
  | [] => rfl
  | x :: a => by show x :: apV a b = _; rw [apV_eq b a]; rfl
theorem capV_eq : ∀ cs : List (Pth × Nat), capV cs = cs.map fun x => V.s (.p x.1 x.2)
  | [] => rfl
  | (r, o) :: cs => by show V.s (.p r o) :: capV cs = _; rw [capV_eq cs]; rfl
theorem Iss.app {e : Env} : ∀ {a : List V} {x : List Value} {b : List V} {y : List Value}, Iss e a x → Iss e b y → Iss e (a ++ b) (x ++ y)
  | _, _, _, _, .nil, h => h
  | _, _, _, _, .cons h1 h2, h => .cons h1 (Iss.app h2 h)
theorem Iss.caps {e : Env} : ∀ cs : List (Pth × Nat), Iss e (cs.map fun x => V.s (.p x.1 x.2)) (cs.map fun x => Value.pointer (some (adr e x.1 x.2)))
  | [] => .nil
  | _ :: cs => .cons (.inr (.inl rfl)) (Iss.caps cs)
section
variable {Y : Lay} {P : Program} {ζ : (Nat → Int) × Nat} {cal : Cal} {prog : Tr FJ}
theorem calS_ok (HP : ProgOk Y P prog) (HC : CalOk Y P (kp Y P ζ) cal) (HD : DrwAll Y P ζ cal) : CalOk Y P (kp Y P ζ) (calS prog cal) := by
  intro s args h r hr e w xs hκ hR hG hs hf hx
  cases s <;> first | (cases hr; done) | skip
  · rename_i f cs
    have hr : runF prog cal f (List.casesOn cs args fun c cs => apV args (capV (c :: cs))) h = some r := hr
    have ha : (List.casesOn cs args fun c cs => apV args (capV (c :: cs)) : List V) = args ++ cs.map fun x => V.s (.p x.1 x.2) := by
      cases cs with
      | nil => simp
      | cons c cs => show apV args (capV (c :: cs)) = _; rw [apV_eq, capV_eq]
    rw [ha] at hr
    have hcs : (cs.map fun x => V.s (.p x.1 x.2)).all (V.rf (Pth.ok h.n.n)) = true := by
      have hs : (cs.all fun x => Pth.ok h.n.n x.1) = true := hs
      simp only [List.all_map, List.all_eq_true] at hs ⊢
      exact hs
    have := runF_snd HP HC HD hr hκ hR hG (by rw [List.all_append, hf, hcs]; rfl) (hx.app (Iss.caps cs))
    refine ⟨this.1, ?_⟩
    have h2 := this.2
    rw [← List.append_toArray] at h2
    exact h2
  · rename_i f q r0 o
    have hr : runF prog cal f (Bool.casesOn q (.s (.p r0 o)) (.agg [.p r0 o]) :: args) h = some r := hr
    have hs : Pth.ok h.n.n r0 = true := hs
    have h1 : (Bool.casesOn q (.s (.p r0 o)) (.agg [.p r0 o]) : V).rf (Pth.ok h.n.n) = true := by
      cases q
      · exact hs
      · show ((Pth.ok h.n.n r0) && true) = true
        rw [show Pth.ok h.n.n r0 = true from hs]; rfl
    have h2 : Isu e (Bool.casesOn q (.s (.p r0 o)) (.agg [.p r0 o]) : V) (if q then Value.agg #[.pointer (some (adr e r0 o))] else .pointer (some (adr e r0 o))) := by
      cases q <;> exact .inr (.inl rfl)
    have := runF_snd HP HC HD hr hκ hR hG (by simp only [List.all_cons, h1, hf, Bool.and_self]) (All2.cons h2 hx)
    refine ⟨this.1, ?_⟩
    have h3 := this.2
    have e1 : #[if q then Value.agg #[.pointer (some (adr e r0 o))] else .pointer (some (adr e r0 o))] ++ xs.toArray = ((if q then Value.agg #[.pointer (some (adr e r0 o))] else .pointer (some (adr e r0 o))) :: xs).toArray := by simp
    rw [e1]; exact h3
  · rename_i q
    exact rnd_snd HC HD (show rndF cal q args h = some r from hr) hκ hR hG hs hf hx
theorem calN_ok (HP : ProgOk Y P prog) (HD : ∀ cal, CalOk Y P (kp Y P ζ) cal → DrwAll Y P ζ cal) : ∀ n, CalOk Y P (kp Y P ζ) (calN prog n)
  | 0 => fun s args h r hr => by cases hr
  | n + 1 => calS_ok HP (calN_ok HP HD n) (HD _ (calN_ok HP HD n))
end
def DC (ops : Array Oper) (D : Nat → Prop) : Prop := ∀ i, D i → ∀ p ∈ predsOf ops i, D p
def TblOk (ops : Array Oper) (tbl : List (Nat × List Nat)) : Prop := ∀ k, ∀ D, DC ops D → D k → ∀ x ∈ tblGet k tbl, D x
theorem addAll_mem : ∀ (xs s : List Nat) (x : Nat), x ∈ addAll xs s → x ∈ xs ∨ x ∈ s
  | [], s, x, h => .inr h
  | y :: xs, s, x, h => by
    rcases addAll_mem xs _ x h with h | h
    · exact .inl (List.mem_cons_of_mem _ h)
    · split at h
      · exact .inr h
      · rcases List.mem_cons.1 h with rfl | h
        · exact .inl List.mem_cons_self
        · exact .inr h
theorem ancOf_ok {ops : Array Oper} {tbl : List (Nat × List Nat)} {i : Nat} (H : TblOk ops tbl) {D : Nat → Prop} (hD : DC ops D) (hp : ∀ p ∈ predsOf ops i, D p) : ∀ x ∈ ancOf ops tbl i, D x := by
  have key : ∀ (l s : List Nat), (∀ p ∈ l, D p) → (∀ x ∈ s, D x) → ∀ x ∈ l.foldl (fun s k => addAll (k :: tblGet k tbl) s) s, D x := by
    intro l
    induction l with
    | nil => intro s _ hs; exact hs
    | cons k l ih =>
      intro s hl hs
      refine ih _ (fun p hp => hl p (List.mem_cons_of_mem _ hp)) fun x hx => ?_
      rcases addAll_mem _ _ x hx with h | h
      · rcases List.mem_cons.1 h with rfl | h
        · exact hl _ List.mem_cons_self
        · exact H k D hD (hl k List.mem_cons_self) x h
      · exact hs x h
  unfold ancOf
  split
  · exact hp
  · exact key _ [] hp (fun x hx => by cases hx)
theorem tblGet_app (k i : Nat) (s : List Nat) : ∀ tbl : List (Nat × List Nat), tblGet k (tbl ++ [(i, s)]) = (if (tbl.map (·.1)).contains k then tblGet k tbl else if i = k then s else [])
  | [] => by simp [tblGet]
  | (k', s') :: l => by
    simp only [List.cons_append, tblGet, List.map_cons, List.contains_cons]
    by_cases h : k' = k
    · subst h; simp
    · rw [if_neg h, tblGet_app k i s l]
      have : (k == k') = false := by simpa using Ne.symm h
      simp only [this, Bool.false_or, if_neg h]
theorem TblOk.add {ops : Array Oper} {tbl : List (Nat × List Nat)} {i : Nat} (H : TblOk ops tbl) : TblOk ops (tbl ++ [(i, ancOf ops tbl i)]) := by
  intro k D hD hk x hx
  rw [tblGet_app] at hx
  split at hx
  · exact H k D hD hk x hx
  · split at hx
    · rename_i e
      subst e
      exact ancOf_ok H hD (hD i hk) x hx
    · cases hx
structure PosOk (ops : Array Oper) (gl : List GJ) (done : List Nat) (i : Nat) (o : Oper) (g : GJ) (x : XJ) (s : List Nat) : Prop where
  ho : ops[i]? = some o
  hg : gl[i]? = some g
  x : x = if g.kind = 3 then .hv g (chkOf gl s done) else .lt g
  anc : ∀ D, DC ops D → (∀ p ∈ predsOf ops i, D p) → ∀ k ∈ s, D k
  plain : g.plain = true
  nodup : i ∉ done
  preds : ∀ p ∈ predsOf ops i, p ∈ done ∨ (insB ops p = true ∧ ∀ q ∈ predsOf ops p, q ∈ done)
  rd : ∀ k o' d, ops[k]? = some o' → o'.dst = some d → d ∈ o.looksAt ops → (k ∈ s ∧ k ∈ done) ∨ (g.kind ≠ 1 ∧ k ∉ done)
  dist : ∀ k o' d, ops[k]? = some o' → o'.dst = some d → k ≠ i → o.dst ≠ some d
  wr : ∀ d, o.dst = some d → ∀ k ∈ done, k ∈ s ∨ ∀ o', ops[k]? = some o' → d ∉ o'.looksAt ops
  hv : ∀ k ∈ done, g.kind = 3 → (kindOf gl k = 3 ∨ kindOf gl k = 2) → k ∈ s
  lk : ∀ k ∈ done, g.kind = 1 → kindOf gl k = 3 → k ∈ s
  seg : g.kind = 1 → segAl gl done = false
theorem okX_out {ops : Array Oper} {gl : List GJ} {done : List Nat} {i : Nat} {o : Oper} {g : GJ} {x : XJ} {s : List Nat} (ho : ops[i]? = some o) (hg : gl[i]? = some g) (hx : x = if g.kind = 3 then .hv g (chkOf gl s done) else .lt g)
    (ha : ∀ D, DC ops D → (∀ p ∈ predsOf ops i, D p) → ∀ k ∈ s, D k) (h : okX ops gl done i o g s = true) : PosOk ops gl done i o g x s := by
  unfold okX at h
  simp only [Bool.and_eq_true, Bool.not_eq_true'] at h
  obtain ⟨⟨⟨⟨⟨⟨h1, h2⟩, h3⟩, h4⟩, h5⟩, h6⟩, h7⟩ := h
  have hk : ∀ k o' d, ops[k]? = some o' → o'.dst = some d → ((!(o.looksAt ops).contains d || (s.contains k && done.contains k) || (g.kind != 1 && !done.contains k)) && (k == i || o.dst != some d)) = true := fun k o' d h1 h2 => by
    have hlt : k < ops.size := (Array.getElem?_eq_some_iff.1 h1).1
    have := List.all_eq_true.1 h4 k (List.mem_range.2 hlt)
    simp only [h1, Option.bind_some, h2] at this
    exact this
  refine ⟨ho, hg, hx, ha, h1, by simpa using h2, fun p hp => by
    have := List.all_eq_true.1 h3 p hp
    simpa using this, fun k o' d k1 k2 k3 => ?_, fun k o' d k1 k2 k3 => ?_, fun d k1 k k2 => ?_, fun k k1 k2 k3 => ?_, fun k k1 k2 k3 => ?_, fun k1 => ?_⟩
  · have := hk k o' d k1 k2
    have hc : (o.looksAt ops).contains d = true := by simpa using k3
    simp only [hc, Bool.not_true, Bool.false_or, Bool.and_eq_true, Bool.or_eq_true, bne_iff_ne, Bool.not_eq_true', List.contains_eq_mem, decide_eq_true_eq, decide_eq_false_iff_not] at this
    exact this.1
  · have := hk k o' d k1 k2
    simp only [Bool.and_eq_true, Bool.or_eq_true, beq_iff_eq, bne_iff_ne] at this
    exact this.2.resolve_left k3
  · rw [k1] at h5
    have := List.all_eq_true.1 h5 k k2
    simp only [Bool.or_eq_true, Bool.not_eq_true', List.contains_eq_mem, decide_eq_true_eq] at this
    refine this.imp id fun h o' ho' => ?_
    rw [ho'] at h
    simpa using h
  · have := List.all_eq_true.1 h6 k k1
    simp only [Bool.or_eq_true, Bool.not_eq_true', List.contains_eq_mem, decide_eq_true_eq] at this
    refine this.resolve_right fun h => ?_
    rw [k2] at h
    rcases k3 with k3 | k3 <;> rw [k3] at h <;> simp at h
  · have := List.all_eq_true.1 h6 k k1
    simp only [Bool.or_eq_true, Bool.not_eq_true', List.contains_eq_mem, decide_eq_true_eq] at this
    refine this.resolve_right fun h => ?_
    rw [k2, k3] at h
    simp at h
  · rw [k1] at h7
    simpa using h7
theorem mkX_pos {ops : Array Oper} {gl : List GJ} : ∀ (rest : List Nat) (tbl : List (Nat × List Nat)) (l : List XJ), TblOk ops tbl → mkX ops gl tbl rest = some l →
    l.length = rest.length ∧ ∀ j i, rest[j]? = some i → ∃ o g x s, l[j]? = some x ∧ PosOk ops gl (tbl.map (·.1) ++ rest.take j) i o g x s
  | [], tbl, l, hT, h => by
    simp only [mkX, Option.some.injEq] at h
    subst h
    exact ⟨rfl, fun j i hi => by simp at hi⟩
  | i0 :: rest, tbl, l, hT, h => by
    simp only [mkX] at h
    split at h
    · rename_i o g ho hg
      split at h
      · rename_i hok
        split at h
        · rename_i l' hl'
          cases h
          obtain ⟨i1, i2⟩ := mkX_pos rest _ l' hT.add hl'
          refine ⟨by simp [i1], fun j i hi => ?_⟩
          cases j with
          | zero =>
            simp only [List.getElem?_cons_zero, Option.some.injEq] at hi
            subst hi
            refine ⟨o, g, _, ancOf ops tbl i0, rfl, ?_⟩
            simp only [List.take_zero, List.append_nil]
            exact okX_out ho hg rfl (fun D hD hp => ancOf_ok hT hD hp) hok
          | succ j =>
            simp only [List.getElem?_cons_succ] at hi
            obtain ⟨o', g', x', s', k1, k2⟩ := i2 j i hi
            refine ⟨o', g', x', s', k1, ?_⟩
            simpa using k2
        · cases h
      · cases h
    · cases h
theorem segAl_out {gl : List GJ} : ∀ (done : List Nat), segAl gl done = false → ∀ (a i : Nat), done[a]? = some i → kindOf gl i = 2 → ∃ (b k : Nat), a < b ∧ done[b]? = some k ∧ kindOf gl k = 3 := by
  have key : ∀ (done : List Nat) (q : Bool), done.foldl (fun b k => if kindOf gl k = 3 then false else if kindOf gl k = 2 then true else b) q = false →
      (q = true → ∃ (b k : Nat), done[b]? = some k ∧ kindOf gl k = 3) ∧ ∀ (a i : Nat), done[a]? = some i → kindOf gl i = 2 → ∃ (b k : Nat), a < b ∧ done[b]? = some k ∧ kindOf gl k = 3 := by
    intro done
    induction done with
    | nil => intro q h; exact ⟨fun hq => (by rw [hq] at h; cases h), fun a i hi => (by simp at hi)⟩
    | cons x done ih =>
      intro q h
      simp only [List.foldl_cons] at h
      obtain ⟨h1, h2⟩ := ih _ h
      have lift : ∀ {a : Nat}, (∃ (b k : Nat), a < b ∧ done[b]? = some k ∧ kindOf gl k = 3) → ∃ (b k : Nat), a + 1 < b ∧ (x :: done)[b]? = some k ∧ kindOf gl k = 3 := fun ⟨b, k, e1, e2, e3⟩ => ⟨b + 1, k, by omega, by simpa using e2, e3⟩
      refine ⟨fun hq => ?_, fun a i hi hk => ?_⟩
      · by_cases h3 : kindOf gl x = 3
        · exact ⟨0, x, rfl, h3⟩
        · rw [if_neg h3] at h1
          have : ∃ (b k : Nat), done[b]? = some k ∧ kindOf gl k = 3 := h1 (by split <;> first | rfl | exact hq)
          obtain ⟨b, k, e1, e2⟩ := this
          exact ⟨b + 1, k, by simpa using e1, e2⟩
      · cases a with
        | zero =>
          simp only [List.getElem?_cons_zero, Option.some.injEq] at hi
          subst hi
          rw [if_neg (by rw [hk]; decide), if_pos hk] at h1
          obtain ⟨b, k, e1, e2⟩ := h1 rfl
          exact ⟨b + 1, k, by omega, by simpa using e1, e2⟩
        | succ a =>
          simp only [List.getElem?_cons_succ] at hi
          exact lift (h2 a i hi hk)
  exact fun done h => (key done false h).2
section
variable {Y : Lay} {P : Program} {κ : KP} {cal : Cal} {o : Oper} {op : J} {ro : Option Nat}
def WpE (Y : Lay) (P : Program) (κ : KP) (cal : Cal) (o : Oper) (op : J) (ro : Option Nat) : Prop :=
  ∀ t h k r, exJ op cal t h k = some r → ∃ v h1, (∀ k', exJ op cal t h k' = k' v h1) ∧ ∀ n e a w, EK e κ → OT Y e t (Pth.ok h.n.n) a (· ∈ o.op.operands) → Rel e h w → ∀ next Q,
    (∀ e' w' x, Step e h w e' h1 w' → Isu e' v x → v.ok h1.n.n = true → h1.df = h.df → next (a.put o.dst x) w') → o.wpIn (wd ro) n P a w next Q
theorem Acts.wpe (H : Acts Y P o op) (hno : ∀ c, o.op ≠ .defer c) : WpE Y P κ cal o op ro := by
  intro t h k r hr
  obtain ⟨v, h1, i1, i2, i3⟩ := H cal t h k r hr
  refine ⟨v, h1, i1 cal, fun n e a w _ hT hR next Q hn => ?_⟩
  obtain ⟨nx, x, w', e', j1, j2, j3, j4, j5⟩ := i3 e a w hT hR
  exact wpIn_run hno j1 j2 (hn e' w' x j3 j4 j5 i2)
theorem wpe_call {f : Pth} {args : List O} (hc : compI Y P o = some (.call f args)) (HC : CalOk Y P κ cal) : WpE Y P κ cal o (.call f args) ro := by
  intro t h k r hr
  obtain ⟨c, g, ho, hcal, rfl, hx⟩ := call_inv hc
  obtain ⟨v, h1, hr1, hr2⟩ := retK_some (show retK k (cal (.fn (Pth.of g) []) (evs t args) h) = some r from hr)
  refine ⟨v, h1, fun k' => ?_, fun n e a w hκ hT hR next Q hn => ?_⟩
  · show retK k' (cal (.fn (Pth.of g) []) (evs t args) h) = _
    rw [hr1]; rfl
  obtain ⟨a1, a2⟩ := args_is hT (fun x hx => by simp only [ho, Op.operands, Call.operands]; simp; first | exact .inl (by simpa using hx) | exact .inr (by simpa using hx) | exact (by simpa using hx)) hx
  have H := HC _ _ _ _ hr1 e w _ hκ hR hT.gl rfl a1 a2
  have hxs : (c.args.toList.map a.eval).toArray = c.args.map a.eval := by simp [← Array.toList_map]
  rw [hxs] at H
  refine call_wp ho hcal (s := .fn (Pth.of g) []) (by simp [S.tr, Pth.of_n, Act.eval]) H ?_
  rintro x w' ⟨e', i1, i2, i3, i4⟩
  exact hn e' w' x i1 i3 i4 i2
theorem wpe_callv {f : O} {args : List O} (hc : compI Y P o = some (.callv f args)) (HC : CalOk Y P κ cal) : WpE Y P κ cal o (.callv f args) ro := by
  intro t h k r hr
  obtain ⟨c, i, ho, hcal, rfl, hx⟩ := callv_inv hc
  obtain ⟨s, hs, hr0⟩ := asS_some (show asS (ev t (.t (Pth.of i))) _ = some r from hr)
  obtain ⟨v, h1, hr1, hr2⟩ := retK_some (show retK k (cal s (evs t args) h) = some r from hr0)
  refine ⟨v, h1, fun k' => ?_, fun n e a w hκ hT hR next Q hn => ?_⟩
  · show asS (ev t (.t (Pth.of i))) (fun s => retK k' (cal s (evs t args) h)) = _
    rw [hs, e_asS, hr1]; rfl
  obtain ⟨a1, a2⟩ := args_is hT (fun x hx => by simp only [ho, Op.operands, Call.operands]; simp; first | exact .inl (by simpa using hx) | exact .inr (by simpa using hx) | exact (by simpa using hx)) hx
  obtain ⟨e1, e2⟩ := ev_is hT (x := .tmp i) (y := .t (Pth.of i)) (by simp [ho, Op.operands, Call.operands, hcal]) rfl
  rw [hs] at e1 e2
  have H := HC _ _ _ _ hr1 e w _ hκ hR hT.gl e1 a1 a2
  have hnu : nU s = true := by cases s <;> first | rfl | exact H.elim
  have hn0 : a.eval (.tmp i) = s.tr e := by
    rcases e2 with e2 | e2
    · cases e2
    · exact e2.eq hnu
  have hxs : (c.args.toList.map a.eval).toArray = c.args.map a.eval := by simp [← Array.toList_map]
  rw [hxs] at H
  refine call_wp ho hcal (s := s) hn0 H ?_
  rintro x w' ⟨e', i1, i2, i3, i4⟩
  exact hn e' w' x i1 i3 i4 i2
theorem comp_nodefer {op : J} (hc : compI Y P o = some op) (hp : op.plain = true) : ∀ c, o.op ≠ .defer c := fun c ho => by
  unfold compI at hc
  rw [ho] at hc
  simp only at hc
  split at hc
  · simp only [Option.map_eq_some_iff] at hc
    obtain ⟨_, _, rfl⟩ := hc
    cases hp
  · cases hc
theorem wpe_all (hc : compI Y P o = some op) (HC : CalOk Y P κ cal) (hp : op.plain = true) : WpE Y P κ cal o op ro := by
  by_cases hcal : op.calls = true
  · cases op <;> first | (cases hcal; done) | (cases hp; done) | skip
    · exact wpe_call hc HC
    · exact wpe_callv hc HC
  · exact Acts.wpe ((comp_cls hc).acts (by simpa using hcal)) (comp_nodefer hc hp)
end
def GJ.op : GJ → J
  | .g _ op => op
  | .c _ op _ _ => op
def GJ.gd : GJ → Option (Pth × Bool)
  | .g _ _ => none
  | .c _ _ j w => some (j, w)
theorem GJ.d_g (d : Option Pth) (op : J) : (GJ.g d op).d = d := rfl
theorem GJ.d_c (d : Option Pth) (op : J) (j : Pth) (w : Bool) : (GJ.c d op j w).d = d := rfl
def GJ.on (g : GJ) (t : T) : Prop := match g.gd with
  | none => True
  | some (j, w) => gt vu j t = .s (.b w)
def GJ.off (g : GJ) (t : T) : Prop := match g.gd with
  | none => False
  | some (j, w) => gt vu j t = vu ∨ gt vu j t = .s (.b (!w))
theorem exG_out {g : GJ} {cal : Cal} {t : T} {h : Hp} {k : KT} {r : RES} (hr : exG g cal t h k = some r) :
    (g.on t ∧ (∀ k, exG g cal t h k = exJ g.op cal t h fun v h => k (putT g.d t v) h)) ∨ (g.off t ∧ ∀ k, exG g cal t h k = k (putT g.d t vu) h) := by
  cases g with
  | g d op =>
    refine .inl ⟨trivial, fun k => ?_⟩
    show exJ op cal t h (fun v h => putK d t v fun t => k t h) = _
    simp only [putK_eq]; rfl
  | c d op j w =>
    have hr : gdK t j w (g_g d op cal t h k) (putK d t vu fun t => k t h) = some r := hr
    have hg : ∀ k, exG (.c d op j w) cal t h k = gdK t j w (g_g d op cal t h k) (putK d t vu fun t => k t h) := fun k => rfl
    have key : ∀ q (y n : Ans), gt vu j t = .s (.b q) → gdK t j w y n = if q = w then y else n := fun q y n hq => by
      unfold gdK
      rw [gtV_eq, hq]
      cases q <;> cases w <;> rfl
    rcases gdK_out hr with ⟨q, hq, _⟩ | ⟨hq, _⟩
    · by_cases hqw : q = w
      · refine .inl ⟨by show gt vu j t = .s (.b w); rw [hq, hqw], fun k => ?_⟩
        rw [hg, key q _ _ hq, if_pos hqw]
        show exJ op cal t h (fun v h => putK d t v fun t => k t h) = _
        simp only [putK_eq]; rfl
      · refine .inr ⟨.inr ?_, fun k => ?_⟩
        · rw [hq]; cases q <;> cases w <;> first | rfl | exact absurd rfl hqw
        · rw [hg, key q _ _ hq, if_neg hqw, putK_eq]; rfl
    · refine .inr ⟨.inl hq, fun k => ?_⟩
      rw [hg]
      unfold gdK
      rw [gtV_eq, hq, putK_eq]; rfl
def Does (g : GJ) (cal : Cal) (t : T) (h : Hp) (v : V) (h' : Hp) : Prop := ∀ k, exG g cal t h k = k (putT g.d t v) h'
section
variable {Y : Lay} {P : Program} {N : Nat} {κ : KP} {cal : Cal} {ops : Array Oper} {o : Oper} {g : GJ}
theorem compG_op (hg : compG Y P N ops o = some g) : compI Y P o = some g.op ∧ g.d = o.dst.map Pth.of ∧ (∀ i, o.dst = some i → i < N) ∧
    ((o.guard = none ∧ g.gd = none) ∨ ∃ j want oj d, o.guard = some (j, want) ∧ ops[j]? = some oj ∧ oj.dst = some d ∧ g.gd = some (Pth.of d, want)) := by
  obtain ⟨op, h1, h2, h3⟩ := compG_spec hg
  rcases h3 with ⟨h3, rfl⟩ | ⟨j, want, oj, d, h3, h4, h5, rfl⟩
  · exact ⟨h1, rfl, h2, .inl ⟨h3, rfl⟩⟩
  · exact ⟨h1, rfl, h2, .inr ⟨j, want, oj, d, h3, h4, h5, rfl⟩⟩
theorem does_all (HC : CalOk Y P κ cal) (hg : compG Y P N ops o = some g) (hp : g.plain = true) {t : T} {h : Hp} {k : KT} {r : RES} (hr : exG g cal t h k = some r) : ∃ v h', Does g cal t h v h' ∧ (g.kind ≤ 1 → h' = h) ∧ (g.kind = 2 → ∃ x, h' = h.push x) := by
  obtain ⟨h1, _, _, _⟩ := compG_op hg
  have hp2 : g.op.plain = true := by cases g <;> exact hp
  rcases exG_out hr with ⟨_, h2⟩ | ⟨hoff, h2⟩
  · rw [h2] at hr
    obtain ⟨v, h', i1, _⟩ := wpe_all (ro := none) h1 HC hp2 t h _ r hr
    refine ⟨v, h', fun k => by rw [h2, i1], fun hk => ?_, fun hk => ?_⟩
    · have hk1 : g.op.kind ≤ 1 := by
        cases g with
        | g d op => exact hk
        | c d op j w =>
          have hk : (if op.kind = 2 then 3 else op.kind) ≤ 1 := hk
          show op.kind ≤ 1
          split at hk <;> omega
      have hl : Looks Y P o g.op := by
        cases comp_cls h1 with
        | p H k => exact H.looks
        | l H k => exact H
        | m H k => omega
        | a H k c => omega
        | c k c => omega
      obtain ⟨v', j1, _⟩ := hl cal t h _ r hr
      have := (i1 fun v h => some (v, h)).symm.trans (j1 cal fun v h => some (v, h))
      cases this
      rfl
    · have hk1 : g.op.kind = 2 := by
        cases g with
        | g d op => exact hk
        | c d op j w =>
          have hk : (if op.kind = 2 then 3 else op.kind) = 2 := hk
          split at hk <;> omega
      have hl : Makes Y P o g.op := by
        cases comp_cls h1 with
        | p H k => omega
        | l H k => omega
        | m H k => exact H
        | a H k c => omega
        | c k c => omega
      obtain ⟨v', x, j1, _⟩ := hl cal t h _ r hr
      have := (i1 fun v h => some (v, h)).symm.trans (j1 cal h fun v h => some (v, h))
      cases this
      exact ⟨x, rfl⟩
  · refine ⟨vu, h, fun k => h2 k, fun _ => rfl, fun hk => ?_⟩
    cases g with
    | g d op => exact hoff.elim
    | c d op j w =>
      have hk : (if op.kind = 2 then 3 else op.kind) = 2 := hk
      split at hk <;> omega
end
theorem mem_take_iff {l : List Nat} {j k : Nat} : k ∈ l.take j ↔ ∃ i, i < j ∧ l[i]? = some k := by
  rw [List.mem_iff_getElem?]
  constructor
  · rintro ⟨i, hi⟩
    rw [List.getElem?_take] at hi
    split at hi
    · exact ⟨i, by assumption, hi⟩
    · cases hi
  · rintro ⟨i, h1, h2⟩
    exact ⟨i, by rw [List.getElem?_take, if_pos h1]; exact h2⟩
theorem compGs_get {Y : Lay} {P : Program} {N : Nat} {ops : Array Oper} : ∀ {os : List Oper} {gl : List GJ}, compGs Y P N ops os = some gl → gl.length = os.length ∧ ∀ (i : Nat) (o : Oper) (g : GJ), os[i]? = some o → gl[i]? = some g → compG Y P N ops o = some g
  | [], gl, h => by
    simp only [compGs, Option.some.injEq] at h; subst h
    exact ⟨rfl, fun i o g ho => by simp at ho⟩
  | o0 :: os, gl, h => by
    obtain ⟨g0, l, rfl, h1, h2⟩ := compGs_cons h
    obtain ⟨i1, i2⟩ := compGs_get h2
    refine ⟨by simp [i1], fun i o g ho hg => ?_⟩
    cases i with
    | zero => simp only [List.getElem?_cons_zero, Option.some.injEq] at ho hg; subst ho; subst hg; exact h1
    | succ i => simp only [List.getElem?_cons_succ] at ho hg; exact i2 i o g ho hg
def StepX (cal : Cal) (x : XJ) (t : T) (h : Hp) (v : V) (t' : T) (h' : Hp) : Prop := match x with
  | .lt g => Does g cal t h v h' ∧ t' = putT g.d t v
  | .hv g chk => Does g cal t h v h' ∧ t' = putT g.d t v ∧ h.n.n ≤ h'.n.n ∧ ∀ c ∈ chk, ∃ u, Does c cal t' h' u h' ∧ ∀ p, c.d = some p → u = gt vu p t'
def XJ.g : XJ → GJ
  | .lt g => g
  | .hv g _ => g
def XJ.chk : XJ → List GJ
  | .lt _ => []
  | .hv _ c => c
theorem lk1_out {Y : Lay} {P : Program} {N : Nat} {ops : Array Oper} {o : Oper} {c : GJ} {cal : Cal} (hc : compG Y P N ops o = some c) (hk : c.kind = 1) {t : T} {h : Hp} {f : V → Ans} {r : RES} (hr : lk1 c t h f = some r) : ∃ u, Does c cal t h u h ∧ f u = some r := by
  obtain ⟨h1, _, _, _⟩ := compG_op hc
  have hk1 : c.op.kind = 1 := by
    cases c with
    | g d op => exact hk
    | c d op j w =>
      have hk : (if op.kind = 2 then 3 else op.kind) = 1 := hk
      show op.kind = 1
      split at hk <;> omega
  have hl : Looks Y P o c.op := by
    cases comp_cls h1 with
    | p H k => omega
    | l H k => exact H
    | m H k => omega
    | a H k c => omega
    | c k c => omega
  cases c with
  | g d op =>
    have hr : exJ op noCal t h (fun v _ => f v) = some r := hr
    obtain ⟨v, i1, _⟩ := hl noCal t h _ r hr
    have i1 : ∀ (cal : Cal) (k : KV), exJ op cal t h k = k v h := i1
    rw [i1] at hr
    refine ⟨v, fun k => ?_, hr⟩
    show exJ op cal t h (fun v h => putK d t v fun t => k t h) = _
    rw [i1, putK_eq]; rfl
  | c d op j w =>
    have hr : gdK t j w (exJ op noCal t h fun v _ => f v) (f vu) = some r := hr
    have key : ∀ q (y n : Ans), gt vu j t = .s (.b q) → gdK t j w y n = if q = w then y else n := fun q y n hq => by
      unfold gdK
      rw [gtV_eq, hq]
      cases q <;> cases w <;> rfl
    rcases gdK_out hr with ⟨q, hq, hr⟩ | ⟨hq, hr⟩
    · by_cases hqw : q = w
      · rw [if_pos hqw] at hr
        obtain ⟨v, i1, _⟩ := hl noCal t h _ r hr
        have i1 : ∀ (cal : Cal) (k : KV), exJ op cal t h k = k v h := i1
        rw [i1] at hr
        refine ⟨v, fun k => ?_, hr⟩
        show gdK t j w (exJ op cal t h fun v h => putK d t v fun t => k t h) (putK d t vu fun t => k t h) = _
        rw [key q _ _ hq, if_pos hqw, i1, putK_eq]; rfl
      · rw [if_neg hqw] at hr
        refine ⟨vu, fun k => ?_, hr⟩
        show gdK t j w (exJ op cal t h fun v h => putK d t v fun t => k t h) (putK d t vu fun t => k t h) = _
        rw [key q _ _ hq, if_neg hqw, putK_eq]; rfl
    · refine ⟨vu, fun k => ?_, hr⟩
      show gdK t j w (exJ op cal t h fun v h => putK d t v fun t => k t h) (putK d t vu fun t => k t h) = _
      unfold gdK
      rw [gtV_eq, hq, putK_eq]; rfl
theorem ckK_out {cal : Cal} {t : T} {h : Hp} {c : Unit → Ans} {r : RES} : ∀ {l : List GJ}, (∀ x ∈ l, ∀ (f : V → Ans) (r : RES), lk1 x t h f = some r → ∃ u, Does x cal t h u h ∧ f u = some r) → ckK l t h c = some r → c () = some r ∧ ∀ x ∈ l, ∃ u, Does x cal t h u h ∧ ∀ p, x.d = some p → u = gt vu p t
  | [], _, hr => ⟨hr, fun x hx => by cases hx⟩
  | g :: l, hL, hr => by
    have hr : (lk1 g t h fun v => Option.casesOn g.d (ckK l t h c) fun p => onB (vEq v (gtV p t)) (ckK l t h c) none) = some r := hr
    obtain ⟨u, i1, i2⟩ := hL g List.mem_cons_self _ r hr
    have i3 : ckK l t h c = some r ∧ ∀ p, g.d = some p → u = gt vu p t := by
      cases hd : g.d with
      | none => rw [hd] at i2; exact ⟨i2, fun p hp => by cases hp⟩
      | some p =>
        rw [hd] at i2
        obtain ⟨j1, j2⟩ := onB_t (show onB (vEq u (gtV p t)) (ckK l t h c) none = some r from i2)
        rw [gtV_eq] at j1
        exact ⟨j2, fun p' hp => by cases hp; exact vEq_eq j1⟩
    obtain ⟨k1, k2⟩ := ckK_out (fun x hx => hL x (List.mem_cons_of_mem _ hx)) i3.1
    refine ⟨k1, fun x hx => ?_⟩
    rcases List.mem_cons.1 hx with rfl | hx
    · exact ⟨u, i1, i3.2⟩
    · exact k2 x hx
theorem exXs_trace {cal : Cal} : ∀ (xs : List XJ), (∀ x ∈ xs, (∀ (t : T) (h : Hp) (k : KT) (r : RES), exG x.g cal t h k = some r → ∃ v h', Does x.g cal t h v h') ∧ ∀ c ∈ x.chk, ∀ (t : T) (h : Hp) (f : V → Ans) (r : RES), lk1 c t h f = some r → ∃ u, Does c cal t h u h ∧ f u = some r) →
    ∀ (t : T) (h : Hp) (k : KT) (r : RES), exXs xs cal t h k = some r → ∃ (val : Nat → V) (hp : Nat → Hp) (tm : Nat → T), tm 0 = t ∧ hp 0 = h ∧ k (tm xs.length) (hp xs.length) = some r ∧ ∀ (j : Nat) (x : XJ), xs[j]? = some x → StepX cal x (tm j) (hp j) (val j) (tm (j + 1)) (hp (j + 1))
  | [], _, t, h, k, r, hr => ⟨fun _ => vu, fun _ => h, fun _ => t, rfl, rfl, hr, fun j x hx => by simp at hx⟩
  | x :: xs, hN, t, h, k, r, hr => by
    have fin : ∀ (v : V) (t' : T) (h' : Hp), StepX cal x t h v t' h' → exXs xs cal t' h' k = some r → ∃ (val : Nat → V) (hp : Nat → Hp) (tm : Nat → T), tm 0 = t ∧ hp 0 = h ∧ k (tm (x :: xs).length) (hp (x :: xs).length) = some r ∧ ∀ (j : Nat) (y : XJ), (x :: xs)[j]? = some y → StepX cal y (tm j) (hp j) (val j) (tm (j + 1)) (hp (j + 1)) := fun v t' h' hS hr => by
      obtain ⟨val, hp, tm, i1, i2, i3, i4⟩ := exXs_trace xs (fun y hy => hN y (List.mem_cons_of_mem _ hy)) t' h' k r hr
      refine ⟨fun j => match j with | 0 => v | j + 1 => val j, fun j => match j with | 0 => h | j + 1 => hp j, fun j => match j with | 0 => t | j + 1 => tm j, rfl, rfl, i3, fun j y hy => ?_⟩
      cases j with
      | zero =>
        simp only [List.getElem?_cons_zero, Option.some.injEq] at hy
        subst hy
        simp only [i1, i2]
        exact hS
      | succ j =>
        simp only [List.getElem?_cons_succ] at hy
        exact i4 j y hy
    obtain ⟨n1, n2⟩ := hN x List.mem_cons_self
    cases x with
    | lt g =>
      have hr : exG g cal t h (fun t h => exXs xs cal t h k) = some r := hr
      obtain ⟨v, h', i1⟩ := n1 t h _ r hr
      rw [show exG g cal t h (fun t h => exXs xs cal t h k) = _ from i1 _] at hr
      exact fin v _ h' ⟨i1, rfl⟩ hr
    | hv g chk =>
      have hr : exG g cal t h (fun t' h' => onB (Nat.ble h.n.n h'.n.n) (ckK chk t' h' fun _ => exXs xs cal t' h' k) none) = some r := hr
      obtain ⟨v, h', i1⟩ := n1 t h _ r hr
      rw [show exG g cal t h (fun t' h' => onB (Nat.ble h.n.n h'.n.n) (ckK chk t' h' fun _ => exXs xs cal t' h' k) none) = _ from i1 _] at hr
      obtain ⟨i2, i3⟩ := onB_t hr
      obtain ⟨i4, i5⟩ := ckK_out (cal := cal) (fun c hc f r hr => n2 c hc _ _ f r hr) i3
      exact fin v _ h' ⟨i1, rfl, nat_le i2, i5⟩ i4
theorem chkOf_mem {gl : List GJ} {s : List Nat} {c : GJ} : ∀ {l : List Nat}, c ∈ chkOf gl s l → ∃ k ∈ l, gl[k]? = some c ∧ c.kind = 1
  | [], h => by cases h
  | k :: ks, h => by
    simp only [chkOf] at h
    split at h
    · rename_i g hg
      split at h
      · rename_i hc
        rcases List.mem_cons.1 h with rfl | h
        · exact ⟨k, List.mem_cons_self, hg, hc.1⟩
        · obtain ⟨k', h1, h2⟩ := chkOf_mem h
          exact ⟨k', List.mem_cons_of_mem _ h1, h2⟩
      · obtain ⟨k', h1, h2⟩ := chkOf_mem h
        exact ⟨k', List.mem_cons_of_mem _ h1, h2⟩
    · obtain ⟨k', h1, h2⟩ := chkOf_mem h
      exact ⟨k', List.mem_cons_of_mem _ h1, h2⟩
theorem chkOf_has {gl : List GJ} {s : List Nat} {c : GJ} {k : Nat} : ∀ {l : List Nat}, k ∈ l → gl[k]? = some c → c.kind = 1 → k ∉ s → c ∈ chkOf gl s l
  | [], h, _, _, _ => by cases h
  | k' :: ks, h, h1, h2, h3 => by
    simp only [chkOf]
    rcases List.mem_cons.1 h with rfl | h
    · rw [h1]
      simp only
      rw [if_pos ⟨h2, by simpa using h3⟩]
      exact List.mem_cons_self
    · have := chkOf_has (s := s) h h1 h2 h3
      split
      · split
        · exact List.mem_cons_of_mem _ this
        · exact this
      · exact this
section
variable {f : Pth → Bool} {e e' : Env} (A : AgrF f e e')
include A
theorem AgrF.is {v : V} {x : Value} (h : v.rf f = true) (H : Is e v x) : Is e' v x := by
  rcases H with k | k
  · exact .inl (by rw [A.v h]; exact k)
  · exact .inr k
theorem AgrF.isu {v : V} {x : Value} (h : v.rf f = true) (H : Isu e v x) : Isu e' v x := H.imp id (A.is h)
theorem AgrF.t {t : T} {tm : Array Value} (h : t.rf f = true) (H : TR e t tm) : TR e' t tm := fun p => (H p).imp id (A.is (Tr.rf_gt h))
theorem OkB.moveF (hκ : e'.κ = e.κ) {w w' : World} {r : Pth} {b : B} (h : OkB e w r b) (hσ : e'.σ r = e.σ r) (hδ : e'.δ r = e.δ r) (hv : b.rf f = true)
    (hs : w.heap.size ≤ w'.heap.size) (hb : b ≠ .dd → w'.heap[(e.σ r).1]? = w.heap[(e.σ r).1]?) : OkB e' w' r b := by
  have hadr : ∀ i, E.adr e' r i = E.adr e r i := fun i => by simp only [E.adr, hσ]
  have hvl : ∀ x, E.vl e' x = E.vl e x := fun x => by simp only [E.vl, A.ρ, A.β]
  have hc : ∀ i, b ≠ .dd → w'.cell? (E.adr e' r i) = w.cell? (E.adr e r i) := fun i hd => by
    rw [hadr]; exact cell?_blk (hb hd)
  have hf : ∀ i, b ≠ .dd → w'.frozen? (E.adr e' r i) = w.frozen? (E.adr e r i) := fun i hd => by
    rw [hadr]; exact frozen?_blk (hb hd)
  have hH : ∀ cs, b ≠ .dd → cs.all (S.rf f) = true → Holds e w r cs → Holds e' w' r cs := fun cs hd ho hH i s hi => by
    rw [hc i hd, A.s (by simp only [List.all_eq_true] at ho; exact ho s (List.mem_of_getElem? hi))]
    exact hH i s hi
  have hR : ∀ k, b ≠ .dd → Room e w r k → Room e' w' r k := fun k hd hR i hi => by rw [hc i hd, hf i hd]; exact hR i hi
  cases b with
  | dd => trivial
  | ro cs => exact ⟨by rw [hσ]; have := h.1; omega, hH cs (by simp) hv h.2⟩
  | c cs => exact ⟨by rw [hσ]; have := h.1; omega, hH cs (by simp) hv h.2.1, hR _ (by simp) h.2.2⟩
  | gr cs m es => exact ⟨by rw [hσ]; have := h.1; omega, hH cs (by simp) hv h.2.1, h.2.2.1, by rw [hδ]; exact hR _ (by simp) h.2.2.2⟩
  | w k m D d => exact ⟨by rw [hσ]; have := h.1; omega, fun i hi => by rw [hc i (by simp), hvl]; exact h.2.1 i hi, hR _ (by simp) h.2.2.1, h.2.2.2⟩
  | mp es ck =>
    unfold OkB at h ⊢
    rw [hσ, hb (by simp), h]
    simp only [B.rf, List.all_eq_true, Bool.and_eq_true] at hv
    congr 3
    exact List.map_congr_left fun x hx => by simp only [entT, A.v (V.rk_rf (hv x hx).1), A.v (V.rk_rf (hv x hx).2)]
  | it m a b c =>
    obtain ⟨h0, h⟩ := h
    refine ⟨by rw [hσ]; exact h0, ?_⟩
    rw [hσ, hb (by simp), h]
    cases m with
    | none => rfl
    | some q => simp only [Option.map_some, A.σ q hv]
  | ml es =>
    obtain ⟨l, ck, h1, h2⟩ := h
    refine ⟨l, ck, ?_, h2⟩
    simp only [B.rf, List.all_eq_true, Bool.and_eq_true] at hv
    rw [hσ, hb (by simp), h1]
    congr 3
    refine List.map_congr_left fun x hx => ?_
    have := hv _ (h2.mem_iff.1 (List.mem_map.2 ⟨x, hx, rfl⟩))
    simp only [entT, A.v (V.rk_rf this.1), A.v (V.rk_rf this.2)]
  | lp t ps asg body st pend =>
    obtain ⟨L, h1, h2, h3, h4, h5, h6, h7, h8⟩ := h
    exact ⟨L, by rw [hσ, hb (by simp), h1], h2, h3, A.t hv h4, h5, by rw [hκ]; exact h6, by rw [hκ]; exact h7, h8⟩
  | dq => unfold OkB at h ⊢; rw [hσ, hb (by simp), h]
  | cu s => exact ⟨by rw [hσ]; have := h.1; omega, by rw [hc 0 (by simp), A.s hv]; exact h.2.1, by rw [hc 1 (by simp)]; exact h.2.2.1, hR _ (by simp) h.2.2.2⟩
  | rb k => exact ⟨by rw [hσ]; have := h.1; omega, fun i hi => by rw [hc i (by simp)]; exact h.2 i hi⟩
end
theorem Rel.agr {e e' : Env} {h : Hp} {w : World} (H : Rel e h w) (A : Agr h.n.n e e') : Rel e' h w :=
  ⟨fun r hr => (H.ok r hr).move A hr (H.val r hr) (Nat.le_refl _) (fun _ => rfl), fun r r' hr hr' => by rw [A.σ r hr, A.σ r' hr']; exact H.sep r r' hr hr', H.val, H.esc⟩
theorem Step.agr2 {e e' e2 : Env} {h h' : Hp} {w w' : World} (S : Step e h w e' h' w') (A : Agr h'.n.n e' e2) : Step e h w e2 h' w' :=
  ⟨S.rel.agr A, S.fz, S.ch, S.agr.trans A S.le, S.le, S.os, S.tape, S.output, S.size, S.keep, fun r hr hw => by rw [A.σ r hr]; exact S.mine r hr hw, fun r hr hw => by rw [A.σ r hr]; exact S.nd r hr hw⟩
structure Reg (Y : Lay) (P : Program) (N M : Nat) (κ : KP) (cal : Cal) where
  ops : Array Oper
  gl : List GJ
  ord : List Nat
  xs : List XJ
  val : Nat → V
  hp : Nat → Hp
  tm : Nat → T
  e0 : Env
  a0 : Act
  w0 : World
  HC : CalOk Y P κ cal
  hNM : N ≤ M
  hgl : ∀ (i : Nat) (o : Oper) (g : GJ), ops[i]? = some o → gl[i]? = some g → compG Y P N ops o = some g
  pos : ∀ (j i : Nat), ord[j]? = some i → ∃ o g x s, xs[j]? = some x ∧ PosOk ops gl (ord.take j) i o g x s
  ins : Nat → Bool
  im : Nat
  insd : ∀ (i : Nat) (o : Oper), ops[i]? = some o → ins i = true → o.dst = none
  insn : ∀ j i : Nat, ord[j]? = some i → ins i = false
  imz : ∀ j j' i' : Nat, ord[j]? = some im → ord[j']? = some i' → kindOf gl i' = 3 → j' < j
  all : ∀ i, i < ops.size → ins i = false → ∃ j : Nat, ord[j]? = some i
  len : xs.length = ord.length
  trc : ∀ (j : Nat) (x : XJ), xs[j]? = some x → StepX cal x (tm j) (hp j) (val j) (tm (j + 1)) (hp (j + 1))
  hκ : EK e0 κ
  rel : Rel e0 (hp 0) w0
  gly : Gl Y e0 (Pth.ok (hp 0).n.n)
  ts : TS P M e0 (hp 0) (tm 0) a0
section
variable {Y : Lay} {P : Program} {N M : Nat} {κ : KP} {cal : Cal} (R : Reg Y P N M κ cal)
theorem Reg.noins {k : Nat} {o : Oper} {d : Nat} (ho : R.ops[k]? = some o) (hd : o.dst = some d) : R.ins k = false := by
  cases h : R.ins k with
  | false => rfl
  | true => have := R.insd k o ho h; rw [hd] at this; cases this
theorem Reg.kd {i : Nat} {g : GJ} (h : R.gl[i]? = some g) : kindOf R.gl i = g.kind := by simp only [kindOf, h]
theorem Reg.uniq {j j' i : Nat} (h : R.ord[j]? = some i) (h' : R.ord[j']? = some i) : j = j' := by
  obtain ⟨_, _, _, _, _, k⟩ := R.pos j i h
  obtain ⟨_, _, _, _, _, k'⟩ := R.pos j' i h'
  rcases Nat.lt_trichotomy j j' with c | c | c
  · exact absurd (mem_take_iff.2 ⟨j, c, h⟩) k'.nodup
  · exact c
  · exact absurd (mem_take_iff.2 ⟨j', c, h'⟩) k.nodup
theorem Reg.at_ {j i : Nat} (h : R.ord[j]? = some i) : ∃ o g x s, R.xs[j]? = some x ∧ PosOk R.ops R.gl (R.ord.take j) i o g x s ∧ Does g cal (R.tm j) (R.hp j) (R.val j) (R.hp (j + 1)) ∧ R.tm (j + 1) = putT g.d (R.tm j) (R.val j) ∧ compG Y P N R.ops o = some g := by
  obtain ⟨o, g, x, s, h1, h2⟩ := R.pos j i h
  have h3 := R.trc j x h1
  have hg := R.hgl i o g h2.ho h2.hg
  rw [h2.x] at h3
  refine ⟨o, g, x, s, h1, h2, ?_⟩
  split at h3
  · exact ⟨h3.1, h3.2.1, hg⟩
  · exact ⟨h3.1, h3.2, hg⟩
theorem Reg.does {j i : Nat} {o : Oper} {g : GJ} (h2 : compG Y P N R.ops o = some g) (hp : g.plain = true) (hD : Does g cal (R.tm j) (R.hp j) (R.val j) (R.hp (j + 1))) : (g.kind ≤ 1 → R.hp (j + 1) = R.hp j) ∧ (g.kind = 2 → ∃ x, R.hp (j + 1) = (R.hp j).push x) := by
  obtain ⟨v, h', i1, i2, i3⟩ := does_all R.HC h2 hp (t := R.tm j) (h := R.hp j) (k := fun _ h => some (vu, h)) (r := (vu, R.hp (j + 1))) (hD _)
  have := (hD fun t h => some (vu, h)).symm.trans (i1 fun t h => some (vu, h))
  cases this
  exact ⟨i2, i3⟩
theorem Reg.mono1 {j i : Nat} (h : R.ord[j]? = some i) : (R.hp j).n.n ≤ (R.hp (j + 1)).n.n := by
  obtain ⟨o, g, x, s, h1, h2, h3, h4, h5⟩ := R.at_ h
  by_cases hk : g.kind = 3
  · have h6 := R.trc j x h1
    rw [h2.x, if_pos hk] at h6
    exact h6.2.2.1
  · obtain ⟨d1, d2⟩ := R.does (i := i) h5 h2.plain h3
    by_cases hk1 : g.kind ≤ 1
    · rw [d1 hk1]; exact Nat.le_refl _
    · have hk2 : g.kind = 2 := by
        have : g.kind ≤ 3 := by
          have hop : ∀ op : J, op.kind ≤ 3 := fun op => by cases op <;> simp [J.kind]
          cases g with
          | g d op => exact hop op
          | c d op j w =>
            show (if op.kind = 2 then 3 else op.kind) ≤ 3
            split
            · omega
            · exact hop op
        omega
      obtain ⟨y, hy⟩ := d2 hk2
      rw [hy, Hp.n_push]; omega
theorem Reg.mono {j j' : Nat} (h : j ≤ j') (hl : j' ≤ R.ord.length) : (R.hp j).n.n ≤ (R.hp j').n.n := by
  induction j' with
  | zero => have : j = 0 := by omega
            subst this; exact Nat.le_refl _
  | succ m ih =>
    by_cases hj : j = m + 1
    · rw [hj]; exact Nat.le_refl _
    · have hm : m < R.ord.length := by omega
      exact Nat.le_trans (ih (by omega) (by omega)) (R.mono1 (j := m) (i := R.ord[m]) (List.getElem?_eq_getElem hm))
theorem Reg.tm_oth {p : Pth} {j : Nat} (hj : j ≤ R.ord.length) (h : ∀ j' i o, j' < j → R.ord[j']? = some i → R.ops[i]? = some o → o.dst ≠ some p.n) : gt vu p (R.tm j) = gt vu p (R.tm 0) := by
  induction j with
  | zero => rfl
  | succ m ih =>
    have hm : m < R.ord.length := by omega
    obtain ⟨o, g, x, s, h1, h2, h3, h4, h5⟩ := R.at_ (j := m) (i := R.ord[m]) (List.getElem?_eq_getElem hm)
    obtain ⟨_, hd, _, _⟩ := compG_op h5
    rw [h4, ← ih (by omega) fun j' i o hj' => h j' i o (by omega)]
    have hne := h m R.ord[m] o (by omega) (List.getElem?_eq_getElem hm) h2.ho
    rw [hd]
    cases hdst : o.dst with
    | none => rfl
    | some d =>
      show gt vu p (st vu (Pth.of d) (R.val m) (R.tm m)) = _
      rw [gt_st, if_neg]
      intro c
      exact hne (by rw [hdst, c, Pth.of_n])
theorem Reg.tm_dst {j' i : Nat} {o : Oper} {d : Nat} (hi : R.ord[j']? = some i) (ho : R.ops[i]? = some o) (hd : o.dst = some d) {j : Nat} (hj : j' < j) (hl : j ≤ R.ord.length) : gt vu (Pth.of d) (R.tm j) = R.val j' := by
  induction j with
  | zero => omega
  | succ m ih =>
    have hm : m < R.ord.length := by omega
    obtain ⟨o2, g, x, s, h1, h2, h3, h4, h5⟩ := R.at_ (j := m) (i := R.ord[m]) (List.getElem?_eq_getElem hm)
    obtain ⟨_, hd2, _, _⟩ := compG_op h5
    rw [h4, hd2]
    by_cases hjm : j' = m
    · subst hjm
      have : R.ord[j'] = i := Option.some.inj ((List.getElem?_eq_getElem hm).symm.trans hi)
      have ho2 := h2.ho
      rw [this, ho] at ho2
      cases ho2
      rw [hd]
      show gt vu (Pth.of d) (st vu (Pth.of d) (R.val j') (R.tm j')) = _
      rw [gt_st, if_pos rfl]
    · rw [← ih (by omega) (by omega)]
      cases hdst : o2.dst with
      | none => rfl
      | some d2 =>
        show gt vu (Pth.of d) (st vu (Pth.of d2) (R.val m) (R.tm m)) = _
        rw [gt_st, if_neg]
        intro c
        have hdd : d = d2 := by have := congrArg Pth.n c; simpa [Pth.of_n] using this
        have hne : i ≠ R.ord[m] := fun c => hjm (R.uniq hi (by rw [c]; exact List.getElem?_eq_getElem hm))
        exact h2.dist i o d ho hd hne (by rw [hdst, hdd])
end
end Go.E
