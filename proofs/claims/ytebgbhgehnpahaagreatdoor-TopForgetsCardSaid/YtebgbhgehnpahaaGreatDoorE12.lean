/- A part of the proof of the claim that the last text of this folder states. -/
import Derived.Deep.Slices
import Derived.ChangeSame
import Derived.ReadAgain
import Derived.RowKit3
import Derived.OpenShut
import Derived.SizedLaws
import Derived.JoinedCond
import Derived.KernelRfl
import Derived.LaidMore
import Derived.Lib.LaidTab
import Derived.Stop.Joined
import Derived.Test.YtebgbhgehnpahaaGreatDoorE11
namespace Go.E
set_option linter.all false
theorem putT_inj {p : Pth} {t : T} {v v' : V} (h : putT (some p) t v = putT (some p) t v') : v = v' := by
  have := congrArg (gt vu p) h
  simpa only [putT, gt_st, if_true] using this
theorem Does.eq {g : GJ} {cal : Cal} {t : T} {h h' h2 : Hp} {v v2 : V} (H : Does g cal t h v h') (K : ∀ k, exG g cal t h k = k (putT g.d t v2) h2) : h' = h2 ∧ ∀ d, g.d = some d → v = v2 := by
  have h1 := (H fun _ h => some (vu, h)).symm.trans (K fun _ h => some (vu, h))
  have h2 := fun d => (H fun t h => some (gt vu d t, h)).symm.trans (K fun t h => some (gt vu d t, h))
  refine ⟨by cases h1; rfl, fun d hd => ?_⟩
  have := h2 d
  rw [hd] at this
  simp only [putT, gt_st, if_true, Option.some.injEq, Prod.mk.injEq] at this
  exact this.1
section
variable {Y : Lay} {P : Program} {N M : Nat} {κ : KP} {cal : Cal} {R : Reg Y P N M κ cal} {D : Nat → Prop} {a : Act} {w : World} {s : Nat} {e : Env}
theorem J.kind_le (op : J) : op.kind ≤ 3 := by cases op <;> simp [J.kind]
theorem GJ.kind_le (g : GJ) : g.kind ≤ 3 := by
  cases g with
  | g d op => exact op.kind_le
  | c d op j w =>
    show (if op.kind = 2 then 3 else op.kind) ≤ 3
    split
    · omega
    · exact op.kind_le
theorem kindOf_le (gl : List GJ) (i : Nat) : kindOf gl i ≤ 3 := by
  unfold kindOf
  split
  · exact GJ.kind_le _
  · omega
theorem WI.heavy (W : WI R D a w s e) {j i : Nat} {o : Oper} {g : GJ} {st : List Nat} {y : XJ} (hj : R.ord[j]? = some i) (H : PosOk R.ops R.gl (R.ord.take j) i o g y st) (hg : compG Y P N R.ops o = some g) (hi : ¬ D i) (hpr : ∀ p ∈ predsOf R.ops i, D p) (hk : kindOf R.gl i = 3) :
    s ≤ j ∧ Step R.e0 (R.hp 0) R.w0 e (R.hp j) w ∧ ∀ (e1 : Env) (w' : World) (z : Value), Step e (R.hp j) w e1 (R.hp (j + 1)) w' → (R.hp (j + 1)).df = (R.hp j).df → (∀ d, o.dst = some d → (R.val j).ok (R.hp (j + 1)).n.n = true ∧ Isu e1 (R.val j) z) → ∃ e', WI R (addD D i) (a.put o.dst z) w' (j + 1) e' := by
  have hjl : j < R.ord.length := (List.getElem?_eq_some_iff.1 hj).1
  have hsj : s ≤ j := by
    rcases Nat.lt_or_ge j s with c | c
    · exact absurd (W.pre j i c hj (by omega)) hi
    · exact c
  have hgk : g.kind = 3 := by rw [R.kd H.hg] at hk; exact hk
  have hanc : ∀ (j' i' : Nat), j' < j → R.ord[j']? = some i' → kindOf R.gl i' = 3 ∨ kindOf R.gl i' = 2 → D i' := fun j' i' h1 h2 h3 => H.anc D W.dc hpr i' (H.hv i' (mem_take_iff.2 ⟨j', h1, h2⟩) hgk h3)
  have h3 : ∀ j' i' : Nat, s ≤ j' → j' < j → R.ord[j']? = some i' → kindOf R.gl i' ≠ 3 := fun j' i' c1 c2 c3 c4 => W.nohv j' i' c1 c3 c4 (hanc j' i' c2 c3 (.inl c4))
  have h2 : ∀ j' i' : Nat, s ≤ j' → j' < j → R.ord[j']? = some i' → kindOf R.gl i' = 2 → D i' := fun j' i' c1 c2 c3 c4 => hanc j' i' c2 c3 (.inr c4)
  obtain ⟨C1, C2, C3⟩ := W.catch hsj (by omega) h3 h2
  refine ⟨hsj, C1, fun e1 w' z S hdf hz => ?_⟩
  have hpl : ∀ {j2 i2 : Nat}, j + 1 ≤ j2 → R.ord[j2]? = some i2 → (R.hp (j + 1)).n.n ≤ (R.hp j2).n.n := fun h1 h2 => R.mono h1 (by have := (List.getElem?_eq_some_iff.1 h2).1; omega)
  classical
  obtain ⟨e', he'⟩ : ∃ e' : Env, e' = { e1 with σ := fun q => if R.pendP D (j + 1) q then e.σ q else e1.σ q, δ := fun q => if R.pendP D (j + 1) q then e.δ q else e1.δ q } := ⟨_, rfl⟩
  have hnp : ∀ {q : Pth}, q.n < (R.hp (j + 1)).n.n → ¬ R.pendP D (j + 1) q := fun {q} hq ⟨j2, i2, c1, c2, c3, c4, c5⟩ => by
    have := hpl c1 c2
    rw [c5] at hq; omega
  have A : Agr (R.hp (j + 1)).n.n e1 e' := by
    rw [he']
    exact ⟨fun q hq => if_neg (hnp hq), fun q hq => if_neg (hnp hq), rfl, rfl, rfl⟩
  have hle := S.le
  have hpat : ∀ {q : Pth}, R.pendP D (j + 1) q → e'.σ q = e.σ q ∧ e'.δ q = e.δ q := fun hq => by rw [he']; exact ⟨if_pos hq, if_pos hq⟩
  have hlow : ∀ {q : Pth}, q.n < (R.hp j).n.n → e'.σ q = e.σ q ∧ e'.δ q = e.δ q := fun {q} hq => by
    rw [A.σ q (by omega), A.δ q (by omega), S.agr.σ q hq, S.agr.δ q hq]; exact ⟨rfl, rfl⟩
  have hGs : ∀ b (q : Pth), R.G D s b q = true → e'.σ q = e.σ q ∧ e'.δ q = e.δ q := fun b q hq => by
    rcases (R.G_iff).1 hq with h | ⟨_, j2, i2, c1, c2, c3, c4, c5⟩
    · have := R.mono (j := s) (j' := j) hsj (by omega)
      exact hlow (by omega)
    · rcases Nat.lt_trichotomy j2 j with k | k | k
      · obtain ⟨x2, hx2⟩ := R.push_at c2 c3
        have := R.mono (j := j2 + 1) (j' := j) (by omega) (by omega)
        rw [hx2, Hp.n_push] at this
        exact hlow (by rw [c5]; omega)
      · rw [k, hj] at c2; cases c2; rw [hk] at c3; cases c3
      · exact hpat ⟨j2, i2, k, c2, c3, c4, c5⟩
  have hκρ : e'.ρ = e.ρ ∧ e'.β = e.β ∧ e'.κ = e.κ := ⟨A.ρ.trans S.agr.ρ, A.β.trans S.agr.β, A.κ.trans S.agr.κ⟩
  have AF : ∀ b, AgrF (R.G D s b) e e' := fun b => ⟨fun q hq => (hGs b q hq).1, fun q hq => (hGs b q hq).2, hκρ.1, hκρ.2.1⟩
  have hG : ∀ b q, R.G D s b q = true → R.G (addD D i) (j + 1) b q = true := fun b q h => R.G_mono (fun _ h => .inr h) (Nat.le_refl _) (R.G_stage (by omega) (by omega) h)
  have hcs : ∀ {k : Nat}, k ≠ i → addD D i k → D k := fun h1 h2 => h2.resolve_left h1
  have hki : ∀ {k : Nat}, kindOf R.gl k = 2 → k ≠ i := fun h c => by rw [c, hk] at h; cases h
  refine ⟨e', addD_dc W.dc hpr, by omega, fun j2 i2 c1 c2 c3 => ?_, fun j2 i2 c1 c2 c3 c4 => ?_, .inr ⟨i, by simpa using hj, hk⟩, (C1.trans S).agr2 A, W.vals_put (s' := j + 1) hj H hg (G' := fun j2 => R.G (addD D i) (j + 1) (R.hp (j2 + 1)).n.n) (fun j2 v z c1 c2 => ⟨V.rf_mono (hG _) c1, (AF _).isu c1 c2⟩) (fun d hd => ⟨V.rf_mono (fun q hq => (R.G_iff).2 (.inl (Pth.ok_iff.1 hq))) (hz d hd).1, (hz d hd).2.imp id (A.is (hz d hd).1)⟩), W.oth_put H.ho, by rw [put_size]; exact W.tsz, ?_, fun j2 i2 c1 c2 c3 c4 => ?_, fun j1 i1 j2 i2 c1 c2 c3 c4 c5 c6 c7 c8 c9 => ?_⟩
  · by_cases c : j2 = j
    · subst c; rw [hj] at c2; cases c2; exact .inl rfl
    · right
      rcases Nat.lt_or_ge j2 s with c4 | c4
      · exact W.pre j2 i2 c4 c2 c3
      · have := h3 j2 i2 c4 (by omega) c2
        exact h2 j2 i2 c4 (by omega) c2 (by have := kindOf_le R.gl i2; omega)
  · have hne : i2 ≠ i := fun c => by
      rw [c] at c2
      have := R.uniq c2 hj; omega
    exact W.nohv j2 i2 (by omega) c2 c3 (hcs hne c4)
  · rw [put_defers, hdf]
    exact (C2.agr S.agr S.le).agr A (Nat.le_refl _)
  · have hD := hcs (hki c3) c4
    obtain ⟨x2, k1, k2, k3, k4, k5, k6⟩ := W.pend j2 i2 (by omega) c2 c3 hD
    have hP : R.pendP D (j + 1) (R.hp j2).n := ⟨j2, i2, c1, c2, c3, hD, rfl⟩
    obtain ⟨q1, q2⟩ := hpat hP
    have hnew := C3 j2 i2 (by omega) c2 c3 hD
    have hlt := k4.lt k2
    refine ⟨x2, k1, k2, B.rf_mono (hG _) k3, k4.moveF (AF _) hκρ.2.2 q1 q2 k3 S.size fun hd => S.keep _ hlt fun r hr hrw => hnew r hr (by intro c; rw [c] at hrw; cases hrw), by rw [q1]; exact k5, fun q hq hqd => ?_⟩
    rw [q1, A.σ q hq]
    rcases S.nd q hq hqd with ⟨q', r1, r2, r3⟩ | r
    · rw [← r3]; exact hnew q' r1 r2
    · omega
  · have hD1 := hcs (hki c5) c7
    have hD2 := hcs (hki c6) c8
    rw [(hpat ⟨j1, i1, c1, c3, c5, hD1, rfl⟩).1, (hpat ⟨j2, i2, c2, c4, c6, hD2, rfl⟩).1]
    exact W.pdis j1 i1 j2 i2 (by omega) (by omega) c3 c4 c5 c6 hD1 hD2 c9
theorem WI.step (W : WI R D a w s e) {j i : Nat} (hj : R.ord[j]? = some i) (hi : ¬ D i) (hpr : ∀ p ∈ predsOf R.ops i, D p) {ro : Option Nat} {n : Nat} {Q : Exit → Act → World → Prop} {K : Act → World → Prop} (hK : ∀ a' w' s' e', WI R (addD D i) a' w' s' e' → K a' w') : wpOpIn (wd ro) n P R.ops Q i K a w := by
  obtain ⟨o, g, x, st, h1, H, hD, ht, hg⟩ := R.at_ hj
  have hjl : j < R.ord.length := (List.getElem?_eq_some_iff.1 hj).1
  obtain ⟨hc, hdst, hb, _⟩ := compG_op hg
  have hpl : g.op.plain = true := by have := H.plain; cases g <;> exact this
  have hno := comp_nodefer hc hpl
  have hkd := R.kd H.hg
  have hab : ∀ f, o.about P w a.eval = some f → (wd ro).fn f := fun f _ => wd_fn ro f
  have hgd : ∀ d, o.dst = some d → g.d = some (Pth.of d) := fun d hd => by rw [hdst, hd]; rfl
  have hsome : ∀ {t : T} {h : Hp} {v : V} {h' : Hp}, Does g cal t h v h' → exG g cal t h (fun _ h => some (vu, h)) = some (vu, h') := fun H => H _
  unfold wpOpIn
  simp only [H.ho]
  have light : ∀ (j2 : Nat) (u : V), (j2 = j ∨ (g.kind = 1 ∧ j ≤ j2 ∧ j2 ≤ R.ord.length)) → g.kind ≤ 1 → (∀ d, o.dst = some d → u = R.val j) → ∀ hX : Hp, Does g cal (R.tm j2) hX u hX →
      (∀ v, (∀ cal k, exJ g.op cal (R.tm j2) hX k = k v hX) → ∃ x, Isu e v x ∧ v.rf (R.G D s (R.hp (j + 1)).n.n) = true ∧ (execOp a.eval o).run P w = .ok (.value x) w) → (∀ k : KV, ∀ r, exJ g.op cal (R.tm j2) hX k = some r → ∃ v, ∀ cal k, exJ g.op cal (R.tm j2) hX k = k v hX) →
      if Region.wanted o (yielded R.ops a.tmps) then o.wpIn (wd ro) n P a w K Q else (∀ f, o.about P w a.eval = some f → (wd ro).fn f) ∧ K (a.put o.dst undef) w := fun j2 u hj2 hk hu hX hDX hrun hdet => by
    obtain ⟨w1, w2⟩ := W.wanted hj H hi hpr hg hj2
    rcases exG_out (hsome hDX) with ⟨hon, hex⟩ | ⟨hoff, hex⟩
    · rw [if_pos (w1 hon)]
      have hs := hsome hDX
      rw [hex] at hs
      obtain ⟨v, hv⟩ := hdet _ _ hs
      obtain ⟨x, i1, i2, i3⟩ := hrun v hv
      refine wpIn_run hno i3 (.inl rfl) (hK _ _ s e (W.light hj H hg hpr (by rw [hkd]; exact hk) fun d hd => ?_))
      have := (hDX.eq (v2 := v) (h2 := hX) fun k => by rw [hex, hv]).2 _ (hgd d hd)
      rw [← hu d hd, this]
      exact ⟨i2, i1⟩
    · rw [if_neg (by rw [w2 hoff]; simp)]
      refine ⟨hab, hK _ _ s e (W.light hj H hg hpr (by rw [hkd]; exact hk) fun d hd => ?_)⟩
      have := (hDX.eq (v2 := vu) (h2 := hX) fun k => by rw [hex]).2 _ (hgd d hd)
      rw [← hu d hd, this]
      exact ⟨rfl, undef_is⟩
  have hkc : ∀ m, g.kind = m → m ≠ 3 → g.op.kind = m := fun m h1 h2 => by
    cases g with
    | g d op => exact h1
    | c d op j w =>
      have h1 : (if op.kind = 2 then 3 else op.kind) = m := h1
      show op.kind = m
      split at h1
      · omega
      · exact h1
  have hGb : ∀ q, R.G D s (R.hp j).n.n q = true → R.G D s (R.hp (j + 1)).n.n q = true := fun q => R.G_mono (fun _ h => h) (R.mono1 hj)
  rcases Nat.lt_or_ge g.kind 1 with hk0 | hk0
  · have hk0 : g.kind = 0 := by omega
    have hP : Pure Y P o g.op := by
      have := hkc 0 hk0 (by omega)
      cases comp_cls hc with
      | p H k => exact H
      | l H k => omega
      | m H k => omega
      | a H k c => omega
      | c k c => omega
    have hsame := (R.does (i := i) hg H.plain hD).1 (by omega)
    rw [hsame] at hD
    refine light j (R.val j) (.inl rfl) (by omega) (fun _ _ => rfl) (R.hp j) hD (fun v hv => ?_) (fun k r hr => ?_)
    · obtain ⟨v', p1, p2⟩ := hP cal (R.tm j) (R.hp j) (fun v h => some (v, h)) (v, R.hp j) (hv cal _)
      obtain ⟨z, q1, q2, q3⟩ := p2 e (R.G D s (R.hp (j + 1)).n.n) a (W.ot hj H hi hpr (.inl rfl) hGb)
      have := (hv cal fun v h => some (v, h)).symm.trans (p1 cal (R.hp j) _)
      cases this
      exact ⟨z, q1, q2, q3 w⟩
    · obtain ⟨v', p1, _⟩ := hP cal (R.tm j) (R.hp j) k r hr
      exact ⟨v', fun cal k => p1 cal (R.hp j) k⟩
  rcases Nat.lt_or_ge g.kind 2 with hk1 | hk1
  · have hk1 : g.kind = 1 := by omega
    have hL : Looks Y P o g.op := by
      have := hkc 1 hk1 (by omega)
      cases comp_cls hc with
      | p H k => exact H.looks
      | l H k => exact H
      | m H k => omega
      | a H k c => omega
      | c k c => omega
    have fin : ∀ (j2 : Nat) (u : V), (j2 = j ∨ (g.kind = 1 ∧ j ≤ j2 ∧ j2 ≤ R.ord.length)) → (∀ d, o.dst = some d → u = R.val j) → Does g cal (R.tm j2) (R.hp s) u (R.hp s) → (R.hp j).n.n ≤ (R.hp s).n.n → if Region.wanted o (yielded R.ops a.tmps) then o.wpIn (wd ro) n P a w K Q else (∀ f, o.about P w a.eval = some f → (wd ro).fn f) ∧ K (a.put o.dst undef) w := fun j2 u hj2 hu hDX hjs => by
      refine light j2 u hj2 (by omega) hu (R.hp s) hDX (fun v hv => ?_) (fun k r hr => ?_)
      · obtain ⟨v', p1, p2⟩ := hL cal (R.tm j2) (R.hp s) (fun v h => some (v, h)) (v, R.hp s) (hv cal _)
        obtain ⟨z, q1, q2, q3⟩ := p2 e a w (W.ot hj H hi hpr hj2 (fun q hq => by
          rw [Pth.ok_iff]
          rcases (R.G_iff).1 hq with h | ⟨h, _⟩ <;> omega)) W.cum.rel
        have := (hv cal fun v h => some (v, h)).symm.trans (p1 cal _)
        cases this
        exact ⟨z, q1, V.rf_mono (fun q hq => (R.G_iff).2 (.inl (Pth.ok_iff.1 hq))) q2, q3⟩
      · obtain ⟨v', p1, _⟩ := hL cal (R.tm j2) (R.hp s) k r hr
        exact ⟨v', fun cal k => p1 cal k⟩
    by_cases hjs : j < s
    · rcases W.hvp with h0 | ⟨i0, c1, c2⟩
      · omega
      · obtain ⟨o0, g0, x0, s0, c3, c4⟩ := R.pos (s - 1) i0 c1
        have hg0 : g0.kind = 3 := by rw [R.kd c4.hg] at c2; exact c2
        have hlt : j < s - 1 := by
          rcases Nat.lt_or_ge j (s - 1) with k | k
          · exact k
          · have : j = s - 1 := by omega
            rw [← this, hj] at c1; cases c1; omega
        have hmem : i ∈ R.ord.take (s - 1) := mem_take_iff.2 ⟨j, hlt, hj⟩
        have hD0 : D i0 := W.pre (s - 1) i0 (by omega) c1 (by omega)
        have hns : i ∉ s0 := fun c => hi (c4.anc D W.dc (W.dc i0 hD0) i c)
        have htr := R.trc (s - 1) x0 c3
        rw [c4.x, if_pos hg0, show s - 1 + 1 = s by omega] at htr
        obtain ⟨u, u1, u2⟩ := htr.2.2.2 g (chkOf_has hmem H.hg hk1 hns)
        refine fin s u (.inr ⟨hk1, by omega, W.sle⟩) (fun d hd => ?_) u1 (R.mono (by omega) W.sle)
        rw [u2 _ (hgd d hd)]
        exact R.tm_dst hj H.ho hd (by omega) W.sle
    · have hno3 : ∀ (j' i' : Nat), s ≤ j' → j' < j → R.ord[j']? = some i' → kindOf R.gl i' ≠ 3 := fun j' i' c1 c2 c3 c4 =>
        W.nohv j' i' c1 c3 c4 (H.anc D W.dc hpr i' (H.lk i' (mem_take_iff.2 ⟨j', c2, c3⟩) hk1 c4))
      have hno2 : ∀ (j' i' : Nat), s ≤ j' → j' < j → R.ord[j']? = some i' → kindOf R.gl i' ≠ 2 := fun j' i' c1 c2 c3 c4 => by
        obtain ⟨b, k, e1, e2, e3⟩ := segAl_out (R.ord.take j) (H.seg hk1) j' i' (by rw [List.getElem?_take, if_pos c2]; exact c3) c4
        rw [List.getElem?_take] at e2
        split at e2
        · rename_i hbj
          exact hno3 b k (by omega) hbj e2 e3
        · cases e2
      have hsame : ∀ m, s ≤ m → m ≤ j → R.hp m = R.hp s := by
        intro m
        induction m with
        | zero => intro c1 _; have : s = 0 := by omega
                  rw [this]
        | succ m ih =>
          intro c1 c2
          by_cases hsm : s = m + 1
          · rw [hsm]
          · have hom : R.ord[m]? = some R.ord[m] := List.getElem?_eq_getElem (by omega)
            obtain ⟨o3, g3, x3, s3, k1, k2, k3, k4, k5⟩ := R.at_ hom
            have n3 := hno3 m _ (by omega) (by omega) hom
            have n2 := hno2 m _ (by omega) (by omega) hom
            rw [R.kd k2.hg] at n3 n2
            rw [(R.does (i := R.ord[m]) k5 k2.plain k3).1 (by have := g3.kind_le; omega)]
            exact ih (by omega) (by omega)
      have hjs2 := hsame j (by omega) (Nat.le_refl _)
      rw [(R.does (i := i) hg H.plain hD).1 (by omega), hjs2] at hD
      exact fin j (R.val j) (.inl rfl) (fun _ _ => rfl) hD (by rw [hjs2]; exact Nat.le_refl _)
  rcases Nat.lt_or_ge g.kind 3 with hk2 | hk2
  · have hk2 : g.kind = 2 := by omega
    have hM : Makes Y P o g.op := by
      have := hkc 2 hk2 (by omega)
      cases comp_cls hc with
      | p H k => omega
      | l H k => omega
      | m H k => exact H
      | a H k c => omega
      | c k c => omega
    have hgg : ∃ d op, g = .g d op := by
      cases g with
      | g d op => exact ⟨_, _, rfl⟩
      | c d op j w =>
        have h1 : (if op.kind = 2 then 3 else op.kind) = 2 := hk2
        split at h1 <;> omega
    have hon : g.on (R.tm j) := by obtain ⟨d, op, rfl⟩ := hgg; trivial
    rw [if_pos ((W.wanted hj H hi hpr hg (.inl rfl)).1 hon)]
    have hex : ∀ k, exG g cal (R.tm j) (R.hp j) k = exJ g.op cal (R.tm j) (R.hp j) fun v h => k (putT g.d (R.tm j) v) h := by
      rcases exG_out (hsome hD) with ⟨_, h⟩ | ⟨hoff, _⟩
      · exact h
      · obtain ⟨d, op, rfl⟩ := hgg; exact hoff.elim
    have hs := hsome hD
    rw [hex] at hs
    obtain ⟨v, y, m1, m2, m3, m4⟩ := hM cal (R.tm j) (R.hp j) _ _ hs
    obtain ⟨q1, q2⟩ := hD.eq (v2 := v (R.hp j).n) (h2 := (R.hp j).push y) fun k => by rw [hex, m1]
    have hGn : R.G D s (R.hp j).n.n (R.hp j).n = false := by
      cases hb : R.G D s (R.hp j).n.n (R.hp j).n with
      | false => rfl
      | true =>
        have hsj : s ≤ j := by
          rcases Nat.lt_or_ge j s with c | c
          · exact absurd (W.pre j i c hj (by rw [hkd]; omega)) hi
          · exact c
        have := R.mono (j := s) (j' := j) hsj (by omega)
        rcases (R.G_iff).1 hb with h | ⟨h, _⟩ <;> omega
    obtain ⟨n1, n2⟩ := m4 e (R.G D s (R.hp j).n.n) a (W.ot hj H hi hpr (.inl rfl) fun _ h => h)
    obtain ⟨z, w', d, r1, r2, r3, r4⟩ := n2 w (R.hp j).n hGn
    obtain ⟨e', W'⟩ := W.make hj H hg hi hpr (by rw [hkd]; exact hk2) (z := z) q1 m2 n1 r2 (fun d2 hd2 => by
      rw [q2 _ (hgd d2 hd2)]
      exact ⟨fun f hf => m3 _ f hf, r3⟩) r4
    exact wpIn_run hno r1 (.inl rfl) (hK _ _ _ _ W')
  · have hk3 : g.kind = 3 := by have := g.kind_le; omega
    obtain ⟨hsj, C, hfin⟩ := W.heavy hj H hg hi hpr (by rw [hkd]; exact hk3)
    obtain ⟨w1, w2⟩ := W.wanted hj H hi hpr hg (.inl rfl)
    rcases exG_out (hsome hD) with ⟨hon, hex⟩ | ⟨hoff, hex⟩
    · rw [if_pos (w1 hon)]
      have hs := hsome hD
      rw [hex] at hs
      obtain ⟨v, h1', m1, m2⟩ := wpe_all (ro := ro) hc R.HC hpl (R.tm j) (R.hp j) _ _ hs
      obtain ⟨q1, q2⟩ := hD.eq (v2 := v) (h2 := h1') fun k => by rw [hex, m1]
      refine m2 n e a w (R.hκ.agr W.cum.agr) (W.ot hj H hi hpr (.inl rfl) fun q hq => ?_) C.rel K Q fun e1 w' z S hz hvok hdf => ?_
      · rw [Pth.ok_iff]
        have := R.mono (j := s) (j' := j) hsj (by omega)
        rcases (R.G_iff).1 hq with h | ⟨h, _⟩ <;> omega
      · rw [← q1] at S hvok hdf
        obtain ⟨e', W'⟩ := hfin e1 w' z S hdf fun d hd => by rw [q2 _ (hgd d hd)]; exact ⟨hvok, hz⟩
        exact hK _ _ _ _ W'
    · rw [if_neg (by rw [w2 hoff]; simp)]
      obtain ⟨q1, q2⟩ := hD.eq (v2 := vu) (h2 := R.hp j) fun k => by rw [hex]
      obtain ⟨e', W'⟩ := hfin e w undef (by rw [q1]; exact .refl C.rel) (by rw [q1]) fun d hd => by rw [q2 _ (hgd d hd)]; exact ⟨rfl, undef_is⟩
      exact ⟨hab, hK _ _ _ _ W'⟩
end
theorem Step.drew {e : Env} {h : Hp} {w : World} (H : Rel e h w) (n : Nat) : Step e h w e h { w with drawn := n } :=
  ⟨⟨fun r hr => (H.ok r hr).move (Agr.refl h.n.n e) hr (H.val r hr) (Nat.le_refl _) (fun _ => rfl), H.sep, H.val, H.esc⟩, rfl, rfl, Agr.refl _ _, Nat.le_refl _, rfl, rfl, rfl, Nat.le_refl _, fun _ _ _ => rfl, fun r hr hw => .inl ⟨r, hr, hw, rfl⟩, fun r hr hw => .inl ⟨r, hr, hw, rfl⟩⟩
theorem mem_preds {ops : Array Oper} {i p : Nat} {o : Oper} (ho : ops[i]? = some o) : p ∈ predsOf ops i ↔ ∃ e ∈ o.after, Region.binds .any e = true ∧ e.on = p := by
  simp only [predsOf, ho, List.mem_map, List.mem_filter]
  constructor
  · rintro ⟨e, ⟨h1, h2⟩, h3⟩; exact ⟨e, by simpa using h1, h2, h3⟩
  · rintro ⟨e, h1, h2, h3⟩; exact ⟨e, ⟨by simpa using h1, h2⟩, h3⟩
def Ds (listed : Array Bool) (i : Nat) : Prop := listed.getD i false = true
section
variable {Y : Lay} {P : Program} {ζ : (Nat → Int) × Nat} {N M : Nat} {κ : KP} {cal : Cal} {ro : Option Nat} {n : Nat}
theorem any_wp (R : Reg Y P N M κ cal) {Q : Exit → Act → World → Prop} (hQ : ∀ (D : Nat → Prop) a w s e, WI R D a w s e → (∀ i, i < R.ops.size → D i) → Q .normal a w) :
    ∀ (fuel : Nat) (listed : Array Bool) (us : List Nat) (a : Act) (w : World) (s : Nat) (e : Env), listed.size = R.ops.size → us.length ≤ fuel → (∀ i, i < R.ops.size → ¬ Ds listed i → i ∈ us) → WI R (Ds listed) a w s e → wpAnyIn (wd ro) n P .any R.ops Q fuel listed a w := by
  have hgetD : ∀ (listed : Array Bool) (i : Nat), i < listed.size → listed.getD i true = listed.getD i false := fun listed i hi => by simp [Array.getD, hi]
  have done : ∀ (listed : Array Bool), listed.size = R.ops.size → Region.ready .any R.ops listed = [] → ∀ i, i < R.ops.size → Ds listed i := fun listed hsz hr i hi => by
    have key : ∀ (j i : Nat), R.ord[j]? = some i → Ds listed i := by
      intro j
      induction j using Nat.strongRecOn with
      | ind j ih =>
        intro i hj
        obtain ⟨o, g, x, st, _, H⟩ := R.pos j i hj
        have hlt : i < R.ops.size := (Array.getElem?_eq_some_iff.1 H.ho).1
        cases hd : listed.getD i false with
        | true => exact hd
        | false =>
          have : i ∈ Region.ready .any R.ops listed := by
            rw [mem_ready]
            refine ⟨by rw [hgetD listed i (by omega)]; exact hd, o, H.ho, fun e he hb => ?_⟩
            obtain ⟨j', h1, h2⟩ := mem_take_iff.1 (H.preds e.on ((mem_preds H.ho).2 ⟨e, he, hb, rfl⟩))
            exact ih j' h1 e.on h2
          rw [hr] at this
          cases this
    obtain ⟨j, hj⟩ := R.all i hi
    exact key j i hj
  intro fuel
  induction fuel with
  | zero =>
    intro listed us a w s e hsz hus hall W
    have hu : us = [] := by cases us with
      | nil => rfl
      | cons _ _ => simp at hus
    have hD : ∀ i, i < R.ops.size → Ds listed i := fun i hi => by
      by_cases c : Ds listed i
      · exact c
      · have := hall i hi c; rw [hu] at this; cases this
    refine ⟨?_, hQ _ a w s e W hD⟩
    cases hr : Region.ready .any R.ops listed with
    | nil => rfl
    | cons i l =>
      have hi : i ∈ Region.ready .any R.ops listed := by rw [hr]; exact List.mem_cons_self
      obtain ⟨h1, o, h2, _⟩ := mem_ready.1 hi
      have hlt : i < R.ops.size := (Array.getElem?_eq_some_iff.1 h2).1
      have := hD i hlt
      unfold Ds at this
      rw [hgetD listed i (by omega)] at h1
      rw [h1] at this; cases this
  | succ fuel ih =>
    intro listed us a w s e hsz hus hall W
    refine ⟨fun hr => hQ _ a w s e W (done listed hsz hr), fun i hi => ?_⟩
    obtain ⟨h1, o, h2, h3⟩ := mem_ready.1 hi
    have hlt : i < R.ops.size := (Array.getElem?_eq_some_iff.1 h2).1
    rw [hgetD listed i (by omega)] at h1
    have hnd : ¬ Ds listed i := fun c => by unfold Ds at c; rw [h1] at c; cases c
    obtain ⟨j, hj⟩ := R.all i hlt
    refine W.step hj hnd (fun p hp => ?_) fun a' w' s' e' W' => ?_
    · obtain ⟨e, he, hb, rfl⟩ := (mem_preds h2).1 hp
      exact h3 e he hb
    · have hDs : Ds (listed.setIfInBounds i true) = addD (Ds listed) i := by
        funext k
        apply propext
        unfold Ds addD
        by_cases hk : k = i
        · subst hk
          simp [Array.getD, hsz, hlt]
        · have : (listed.setIfInBounds i true).getD k false = listed.getD k false := by
            simp [Array.getD_eq_getD_getElem?, Array.getElem?_setIfInBounds, Ne.symm hk]
          rw [this]
          simp [hk]
      refine ih (listed.setIfInBounds i true) (us.erase i) a' w' s' e' (by simpa using hsz) ?_ (fun k hk hkd => ?_) (by rw [hDs]; exact W')
      · have := List.length_erase_of_mem (hall i hlt hnd)
        omega
      · rw [hDs] at hkd
        have hne : k ≠ i := fun c => hkd (.inl c)
        exact (List.mem_erase_of_ne hne).2 (hall k hk fun c => hkd (.inr c))
theorem WI.fin (R : Reg Y P N M κ cal) {D : Nat → Prop} {a : Act} {w : World} {s : Nat} {e : Env} (W : WI R D a w s e) (hD : ∀ i, i < R.ops.size → D i) : Step R.e0 (R.hp 0) R.w0 e (R.hp R.ord.length) w ∧ TS P M e (R.hp R.ord.length) (R.tm R.ord.length) a := by
  have hall : ∀ (j i : Nat), R.ord[j]? = some i → D i := fun j i h => by
    obtain ⟨o, g, x, st, _, H⟩ := R.pos j i h
    exact hD i (Array.getElem?_eq_some_iff.1 H.ho).1
  obtain ⟨C1, C2, _⟩ := W.catch W.sle (Nat.le_refl _) (fun j' i c1 c2 c3 c4 => W.nohv j' i c1 c3 c4 (hall j' i c3)) (fun j' i _ _ c3 _ => hall j' i c3)
  refine ⟨C1, W.tsz, fun p => ?_, ?_, C2⟩
  · by_cases hex : ∃ (k : Nat) (o : Oper), R.ops[k]? = some o ∧ o.dst = some p.n
    · obtain ⟨k, o, k1, k2⟩ := hex
      obtain ⟨j, hj⟩ := R.all k (Array.getElem?_eq_some_iff.1 k1).1
      have := (W.vals j k o p.n hj (hall j k hj) k1 k2).2
      have h2 := R.tm_dst hj k1 k2 (j := R.ord.length) (List.getElem?_eq_some_iff.1 hj).1 (Nat.le_refl _)
      rw [Pth.of_of] at h2
      rw [h2]; exact this
    · rw [R.tm_oth (Nat.le_refl _) fun j' i o _ _ h3 h4 => hex ⟨i, o, h3, h4⟩, W.oth p.n fun i o h1 _ h3 => hex ⟨i, o, h1, h3⟩]
      exact (R.ts.tr p).imp id (C1.agr.is (Tr.rf_gt R.ts.rf))
  · have key : ∀ j, j ≤ R.ord.length → (R.tm j).rf (Pth.ok (R.hp R.ord.length).n.n) = true := by
      intro j
      induction j with
      | zero => intro _; exact Tr.ok_mono (R.mono (Nat.zero_le _) (Nat.le_refl _)) R.ts.rf
      | succ m ih =>
        intro hm
        have hom : R.ord[m]? = some R.ord[m] := List.getElem?_eq_getElem (by omega)
        obtain ⟨o, g, x, st, k1, k2, k3, k4, k5⟩ := R.at_ hom
        obtain ⟨_, hd, _, _⟩ := compG_op k5
        rw [k4, hd]
        cases hdst : o.dst with
        | none => exact ih (by omega)
        | some d =>
          refine Tr.rf_st (ih (by omega)) (V.rf_mono (fun q hq => ?_) (W.vals m _ o d hom (hall m _ hom) k2.ho hdst).1)
          rw [Pth.ok_iff]
          rcases (R.G_iff).1 hq with h | ⟨h, _⟩
          · have := R.mono W.sle (Nat.le_refl _); omega
          · have := R.mono (j := m + 1) (j' := R.ord.length) hm (Nat.le_refl _); omega
    exact key _ (Nat.le_refl _)
theorem drw_snd (hm : P.follows .mixedOrders = true) (HC : CalOk Y P κ cal) (hNM : N ≤ M) : DrwOk Y P N M κ cal ro n := by
  intro id ops gl d hgl hd hs t h kn kr kx r hr e a w hκ hR hG hS
  unfold compDr at hd
  simp only at hd
  generalize takeX ops gl ops.size (Array.replicate ops.size false) = ord at hd
  split at hd
  rotate_left
  · cases hd
  rename_i hall
  obtain ⟨xs, hx, rfl⟩ := Option.map_eq_some_iff.1 hd
  obtain ⟨hlen, hpos⟩ := mkX_pos ord [] xs (fun k D _ _ x hx => by cases hx) hx
  obtain ⟨g1, g2⟩ := compGs_get hgl
  have hgg : ∀ (i : Nat) (o : Oper) (g : GJ), ops[i]? = some o → gl[i]? = some g → compG Y P N ops o = some g := fun i o g ho hg => g2 i o g (by simpa using ho) hg
  have hpos2 : ∀ (j i : Nat), ord[j]? = some i → ∃ o g x s, xs[j]? = some x ∧ PosOk ops gl (ord.take j) i o g x s := fun j i hj => by simpa using hpos j i hj
  have hxg : ∀ {x : XJ} {g : GJ} {s done : List Nat}, x = (if g.kind = 3 then .hv g (chkOf gl s done) else .lt g) → x.g = g ∧ ∀ c ∈ x.chk, c ∈ chkOf gl s done := fun {x g s done} h => by
    rw [h]
    split
    · exact ⟨rfl, fun c hc => hc⟩
    · exact ⟨rfl, fun c hc => by cases hc⟩
  have nice : ∀ x ∈ xs, (∀ (t : T) (h : Hp) (k : KT) (r : RES), exG x.g cal t h k = some r → ∃ v h', Does x.g cal t h v h') ∧ ∀ c ∈ x.chk, ∀ (t : T) (h : Hp) (f : V → Ans) (r : RES), lk1 c t h f = some r → ∃ u, Does c cal t h u h ∧ f u = some r := fun x hx => by
    obtain ⟨j, hj⟩ := List.mem_iff_getElem?.1 hx
    have hjl : j < ord.length := by rw [← hlen]; exact (List.getElem?_eq_some_iff.1 hj).1
    obtain ⟨o, g, x', s, h1, H⟩ := hpos2 j ord[j] (List.getElem?_eq_getElem hjl)
    rw [hj] at h1; cases h1
    obtain ⟨e1, e2⟩ := hxg H.x
    refine ⟨fun t h k r hr => ?_, fun c hc t h f r hr => ?_⟩
    · rw [e1] at hr ⊢
      obtain ⟨v, h', i1, _⟩ := does_all HC (hgg _ o g H.ho H.hg) H.plain hr
      exact ⟨v, h', i1⟩
    · obtain ⟨k, k1, k2, k3⟩ := chkOf_mem (e2 c hc)
      obtain ⟨j', q1, q2⟩ := mem_take_iff.1 k1
      obtain ⟨o', g', x', s', _, H'⟩ := hpos2 j' k q2
      have := H'.hg
      rw [k2] at this; cases this
      exact lk1_out (hgg k o' c H'.ho k2) k3 hr
  obtain ⟨val, hp, tm, q1, q2, q3, q4⟩ := exXs_trace xs nice t h kn r hr
  have S0 := Step.drew hR (w.drawn + 1)
  let R : Reg Y P N M κ cal := {
    ops := ops, gl := gl, ord := ord, xs := xs, val := val, hp := hp, tm := tm, e0 := e, a0 := a, w0 := { w with drawn := w.drawn + 1 }
    HC := HC, hNM := hNM, hgl := hgg, pos := hpos2
    all := fun i hi => by
      have := List.all_eq_true.1 hall i (List.mem_range.2 hi)
      have hm : i ∈ ord := by simpa using this
      exact List.mem_iff_getElem?.1 hm
    len := hlen, trc := q4, hκ := hκ, rel := by rw [q2]; exact S0.rel, gly := by rw [q2]; exact hG, ts := by rw [q1, q2]; exact hS }
  refine wpIn_region_any hm (any_wp R (fun D a' w' s e' W hD => ?_) ops.size _ (List.range ops.size) a _ 0 e (by simp; rfl) (by simp) (fun i hi _ => List.mem_range.2 hi) ?_)
  · obtain ⟨F1, F2⟩ := WI.fin R W hD
    have F1 : Step e (hp 0) { w with drawn := w.drawn + 1 } e' (hp ord.length) w' := F1
    have F2 : TS P M e' (hp ord.length) (tm ord.length) a' := F2
    rw [q2] at F1
    rw [hlen] at q3
    exact QE.of (kn := kn) (kr := kr) (kx := kx) (ex := .normal) rfl (S0.trans F1) F2 q3 (.refl _ _)
  · have hD0 : ∀ i, ¬ Ds (Array.replicate ops.size false) i := fun i h => by
      unfold Ds at h
      simp [Array.getD] at h
    have hrel : Rel e (hp 0) { w with drawn := w.drawn + 1 } := by rw [q2]; exact S0.rel
    exact ⟨fun i hi => absurd hi (hD0 i), Nat.zero_le _, fun j i hj => by omega, fun j i _ _ _ => hD0 i, .inl rfl, .refl hrel, fun j i o d _ hi => absurd hi (hD0 i), fun p _ => rfl, hS.size, by show DfR P e (hp 0).n.n (hp 0).df a.defers; rw [q2]; exact hS.df, fun j i _ _ _ hi => absurd hi (hD0 i), fun j i j' i' _ _ _ _ _ _ hi => absurd hi (hD0 i)⟩
theorem cal_ok {prog : Tr FJ} (hm : P.follows .mixedOrders = true) (HP : ProgOk Y P prog) (k : Nat) : CalOk Y P (kp Y P ζ) (calN prog k) :=
  calN_ok HP (fun cal HC N M ro n hNM => drw_snd hm HC hNM) k
end
noncomputable def calM (prog : Tr FJ) (nat : Cal) (n : Nat) : Cal := Nat.rec (motive := fun _ => Cal) nat (fun _ ih s args h => Option.rec (calS prog ih s args h) (fun r => some r) (nat s args h)) n
section
variable {Y : Lay} {P : Program} {ζ : (Nat → Int) × Nat} {prog : Tr FJ} {nat : Cal}
theorem calM_ok (hm : P.follows .mixedOrders = true) (HP : ProgOk Y P prog) (HN : CalOk Y P (kp Y P ζ) nat) : ∀ n, CalOk Y P (kp Y P ζ) (calM prog nat n)
  | 0 => HN
  | n + 1 => fun s args h r hr => by
    have ih := calM_ok hm HP HN n
    have hr : (Option.casesOn (nat s args h) (calS prog (calM prog nat n) s args h) fun r => some r : Ans) = some r := hr
    cases hn : nat s args h with
    | none =>
      rw [hn] at hr
      exact calS_ok HP ih (fun N M ro n hNM => drw_snd hm ih hNM) s args h r hr
    | some r' =>
      rw [hn] at hr
      cases hr
      exact HN s args h _ hn
theorem noCal_ok {κ : KP} : CalOk Y P κ noCal := fun s args h r hr => by cases hr
noncomputable def orC (a b : Cal) : Cal := fun s args h => Option.rec (b s args h) (fun r => some r) (a s args h)
theorem orC_ok {κ : KP} {a b : Cal} (ha : CalOk Y P κ a) (hb : CalOk Y P κ b) : CalOk Y P κ (orC a b) := fun s args h r hr => by
  have hr : (Option.casesOn (a s args h) (b s args h) fun r => some r : Ans) = some r := hr
  cases hn : a s args h with
  | none => rw [hn] at hr; exact hb s args h r hr
  | some r' => rw [hn] at hr; cases hr; exact ha s args h _ hn
noncomputable def vsEq (a : List V) : List V → Bool :=
  List.rec (motive := fun _ => List V → Bool) (fun b => List.rec true (fun _ _ _ => false) b) (fun x _ ih b => List.rec false (fun y b _ => and (vEq x y) (ih b)) b) a
theorem vsEq_eq : ∀ {a b : List V}, vsEq a b = true → a = b
  | [], [], _ => rfl
  | [], _ :: _, h => by cases h
  | _ :: _, [], h => by cases h
  | x :: a, y :: b, h => by
    obtain ⟨h1, h2⟩ := and_t (show and (vEq x y) (vsEq a b) = true from h)
    rw [vEq_eq h1, vsEq_eq h2]
noncomputable def simB (a b : Hp) : Bool := and (Nat.beq a.n.n b.n.n) (hpEq a.n.n a b)
theorem simB_sim {a b : Hp} (h : simB a b = true) : Hp.Sim a b := by
  obtain ⟨h1, h2⟩ := and_t h
  obtain ⟨i1, i2, i3⟩ := hpEq_eq h2
  exact ⟨Pth.inj (nat_eq h1).symm, i1, i2, i3⟩
noncomputable def memC (f : Pth) (A : List V) (H : Hp) (v : V) (H' : Hp) : Cal := fun s args h =>
  S.rec (fun _ => none) (fun _ _ => none) (fun _ _ => none) none (fun _ _ _ _ => none) none (fun _ _ => none) (fun f' cs => List.rec (onB (Nat.beq f.n f'.n) (onB (vsEq A args) (onB (simB H h) (Hp.rec (fun _ _ _ _ fz df ch => Hp.rec (fun b n er eq _ _ _ => some (v, Hp.mk b n er eq fz df ch)) H') h) none) none) none) (fun _ _ _ => none) cs) (fun _ _ _ _ => none) none (fun _ => none) (fun _ => none) none (fun _ => none) s
theorem memC_ok {κ : KP} {cal : Cal} (HC : CalOk Y P κ cal) {f : Pth} {A : List V} {H : Hp} {v : V} {H' : Hp} (hr : cal (.fn f []) A H = some (v, H')) : CalOk Y P κ (memC f A H v H') := fun s args h r h1 e w xs hκ hR hG hs hf hx => by
  cases s <;> first | (cases h1; done) | skip
  rename_i f' cs
  cases cs with
  | cons _ _ => cases h1
  | nil =>
    obtain ⟨c1, h2⟩ := onB_t (show onB (Nat.beq f.n f'.n) _ none = some r from h1)
    obtain ⟨c2, h3⟩ := onB_t h2
    obtain ⟨c3, h4⟩ := onB_t h3
    clear h1 h2 h3
    have c1 := Pth.inj (nat_eq c1)
    have c2 := vsEq_eq c2
    have S := simB_sim c3
    subst c1
    subst c2
    obtain ⟨b, n, er, eq, fz, df, ch⟩ := h
    obtain ⟨b', n', er', eq', fz', df', ch'⟩ := H'
    cases h4
    have hn : (Hp.mk b n er eq fz df ch).n = H.n := S.n
    have hC := HC _ _ _ _ hr e w xs hκ (hR.sim S.symm) (by rw [← hn]; exact hG) hs (by rw [← hn]; exact hf) hx
    refine hC.mono fun x w' ⟨e', i1, i2, i3, i4⟩ => ⟨e', i1.sim S ⟨rfl, rfl, rfl, fun _ _ => rfl⟩ rfl rfl, rfl, i3, i4⟩
noncomputable def runB (r : Ans) (v : V) (H : Hp) : Bool := Option.rec false (fun q => Prod.rec (fun v' h' => and (vEq v v') (simB H h')) q) r
theorem runB_out {r : Ans} {v : V} {H : Hp} (h : runB r v H = true) : ∃ h', r = some (v, h') ∧ Hp.Sim H h' := by
  cases r with
  | none => cases h
  | some q =>
    obtain ⟨v', h'⟩ := q
    obtain ⟨h1, h2⟩ := and_t (show and (vEq v v') (simB H h') = true from h)
    rw [vEq_eq h1]
    exact ⟨h', rfl, simB_sim h2⟩
theorem memR_ok {κ : KP} {cal : Cal} (HC : CalOk Y P κ cal) {f : Pth} {A : List V} {H : Hp} {v : V} {H' : Hp} (hr : runB (cal (.fn f []) A H) v H' = true) : CalOk Y P κ (memC f A H v H') := fun s args h r h1 e w xs hκ hR hG hs hf hx => by
  obtain ⟨h2, hr2, S2⟩ := runB_out hr
  cases s <;> first | (cases h1; done) | skip
  rename_i f' cs
  cases cs with
  | cons _ _ => cases h1
  | nil =>
    obtain ⟨c1, h3⟩ := onB_t (show onB (Nat.beq f.n f'.n) _ none = some r from h1)
    obtain ⟨c2, h4⟩ := onB_t h3
    obtain ⟨c3, h5⟩ := onB_t h4
    clear h1 h3 h4
    have c1 := Pth.inj (nat_eq c1)
    have c2 := vsEq_eq c2
    have S := simB_sim c3
    subst c1
    subst c2
    obtain ⟨b, n, er, eq, fz, df, ch⟩ := h
    obtain ⟨b', n', er', eq', fz', df', ch'⟩ := H'
    cases h5
    have hn : (Hp.mk b n er eq fz df ch).n = H.n := S.n
    have hC := HC _ _ _ _ hr2 e w xs hκ (hR.sim S.symm) (by rw [← hn]; exact hG) hs (by rw [← hn]; exact hf) hx
    refine hC.mono fun x w' ⟨e', i1, i2, i3, i4⟩ => ⟨e', i1.sim S ⟨S2.symm.n, S2.symm.er, S2.symm.eq, fun p hp => S2.symm.at_ p hp⟩ rfl rfl, rfl, i3, ?_⟩
    have : h2.n = n' := S2.n
    rw [← this]; exact i4
end
open Go.ChangeShapes Go.WideShapes
section
variable {H : Type} {enc : TypeId × Value → H} {P : Program} {W W' : World}
structure Still (W W' : World) : Prop where
  os : W'.os = W.os
  output : W'.output = W.output
  heap : ∀ b, b < W.heap.size → W'.heap[b]? = W.heap[b]?
theorem Still.keptBut (h : Still W W') (may : MemPlace → Prop) : W.keptBut W' may := by
  refine ⟨h.os, h.output, fun i hi => ?_⟩
  rw [h.heap i hi]
  split
  · rename_i e1 e2
    cases e1.symm.trans e2
    exact ⟨rfl, rfl, rfl, fun _ _ => rfl⟩
  · rename_i e1 e2
    cases e1.symm.trans e2
    exact .inr ⟨rfl, rfl⟩
  · rfl
theorem Still.cell (h : Still W W') {a : Addr} (ha : a.block < W.heap.size) : W'.cell? a = W.cell? a := by
  simp only [World.cell?, h.heap a.block ha]
theorem Still.frozen (h : Still W W') {a : Addr} (ha : a.block < W.heap.size) : W'.frozen? a = W.frozen? a := by
  simp only [World.frozen?, h.heap a.block ha]
theorem Still.same (h : Still W W') {p : MemPlace} (hp : p.block < W.heap.size) : W.sameAt W' p := by
  cases p with
  | cell b off => exact h.cell hp
  | map b => exact h.heap b hp
theorem law_post {T : TypeId → Prop} {f : Func} {s : ChangeSpec} {args : Array Value} {ds gs : List (DataW H)} {before : List MemPlace} {bt : TypeId} (K : Kids P T) (hz : ∀ t e, T t → P.underlying t = some (.slice e) → 0 < P.cellsOf e)
    (hT : ∀ t, t ∈ f.params.toList → T t) (hv : s.vars = []) (hbt : P.underlying bt = some .bool) (hrt : f.resultTypes = #[bt]) (hfn : s.fn H (ds ++ gs) = { results := [.lit (.bool true)], args := ds }) {apart : Bool}
    (hW : DataW.Whole enc P f.params.toList s.vars apart W args.toList ds gs before) (hS : Still W W') {fresh handsOn : Bool} :
    s.post enc P f apart fresh handsOn false W args (.bool true) W' := by
  obtain ⟨p, q, hA, hV, hb, hfz, hnd⟩ := id hW
  have hlt : ∀ x, x ∈ before → x.block < W.heap.size := fun x hx => hW.lt x hx
  rw [hv] at hV
  obtain ⟨rfl, rfl⟩ := trodVars_none hV
  simp only [List.append_nil] at hb hfn
  subst hb
  have hcarry : ∀ {ts : List TypeId} {vs : List Value} {ds : List (DataW H)} {p : List MemPlace} {sp : Nat → Bool}, DataW.TrodAll enc P W 0 sp true ts vs ds p → (∀ x, x ∈ p → x.block < W.heap.size) → DataW.TrodAll enc P W' 0 sp true ts vs ds p := by
    intro ts
    induction ts with
    | nil =>
      intro vs ds p sp h _
      cases vs <;> cases ds <;> first | exact h | exact h.elim
    | cons t ts ih =>
      intro vs ds p sp h hp
      match vs, ds, h with
      | v :: vs, d :: ds, ⟨p1, p2, ⟨n, h1⟩, h2, e⟩ =>
        exact ⟨p1, p2, ⟨n, DataW.trod_carry n _ _ _ h1 (fun x hx => hS.same (hp x (by rw [e]; exact List.mem_append_left _ hx)))⟩, ih h2 (fun x hx => hp x (by rw [e]; exact List.mem_append_right _ hx)), e⟩
  have hres : ∀ (b : Nat) (sp : Nat → Bool) (hd : Bool), DataW.TrodAll enc P W' b sp hd f.resultTypes.toList ((Value.bool true).resultList f.resultTypes.size) (s.fn H (ds ++ [])).results [] := fun b sp hd => by
    simp only [List.append_nil, hfn, hrt]
    exact ⟨[], [], ⟨1, by simp [DataW.trod, Value.cells, hbt]⟩, rfl, rfl⟩
  have hsp : ∀ sp : Nat → Bool, (∀ x, x ∈ before → sp x.block = true) → DataW.TrodAll enc P W' 0 sp true f.params.toList args.toList (s.fn H (ds ++ [])).args before := fun sp hx => by
    simp only [List.append_nil, hfn]
    exact hcarry (DataW.TrodAll.respare K hz hT hA hx) hlt
  have hvars : ∀ sp : Nat → Bool, DataW.TrodVars enc P W' sp s.vars (s.fn H (ds ++ [])).vars [] := fun sp => by
    simp only [List.append_nil, hfn, hv]; rfl
  refine ⟨ds, [], before, [], before, [], hW, hres _ _ _, hsp _ (fun x hx => decide_eq_true (hlt x hx)), hvars _, hS.keptBut _, fun h => Bool.noConfusion h⟩
end
def slicesFull (P : Program) : Bool := (List.range P.types.size).all fun t => match P.underlying t with
  | some (.slice e) => decide (0 < P.cellsOf e)
  | _ => true
theorem trodAll_length {H : Type} {enc : TypeId × Value → H} {P : Program} {w : World} {b0 : Nat} {sp : Nat → Bool} {held : Bool} : ∀ {ts : List TypeId} {vs : List Value} {ds : List (DataW H)} {p : List MemPlace}, DataW.TrodAll enc P w b0 sp held ts vs ds p → ds.length = ts.length
  | [], vs, ds, p, h => by obtain ⟨_, rfl, _⟩ := trodAll_nil h; rfl
  | t :: ts, vs, ds, p, h => by
    obtain ⟨v, vs', d, ds', p', q, rfl, rfl, rfl, _, h1⟩ := trodAll_cons h
    simp [trodAll_length h1]
def areI : List IntKind → List Value → Prop
  | [], [] => True
  | k :: ks, v :: vs => (∃ n, v = .int k n ∧ (Lit.int k n).wf = true) ∧ areI ks vs
  | _, _ => False
def intTys (P : Program) : List TypeId → Option (List IntKind)
  | [] => some []
  | t :: ts => match P.underlying t, intTys P ts with
    | some (.int k), some l => some (k :: l)
    | _, _ => none
theorem areI_of {H : Type} {enc : TypeId × Value → H} {P : Program} {w : World} {r : Reach} {base b0 : Nat} {sp : Nat → Bool} {held : Bool} : ∀ {ts : List TypeId} {vs : List Value} {ds : List (DataW H)} {p : List MemPlace} {ks : List IntKind},
    (∀ (j : Nat) t v, ts[j]? = some t → vs[j]? = some v → Value.okWide P w r base t v) → DataW.TrodAll enc P w b0 sp held ts vs ds p → intTys P ts = some ks → areI ks vs
  | [], vs, ds, p, ks, _, ht, hk => by
    obtain ⟨rfl, rfl, rfl⟩ := trodAll_nil ht
    simp only [intTys, Option.some.injEq] at hk
    subst hk
    trivial
  | t :: ts, vs, ds, p, ks, hok, ht, hk => by
    obtain ⟨v, vs', d, ds', p', q, rfl, rfl, rfl, h0, h1⟩ := trodAll_cons ht
    simp only [intTys] at hk
    split at hk
    · rename_i k l hu hl
      cases hk
      refine ⟨?_, areI_of (fun j t v ht hv => hok (j + 1) t v (by simpa using ht) (by simpa using hv)) h1 hl⟩
      have hc : v.cells = #[v] := by
        have := hok 0 t v rfl rfl
        unfold Value.okWide at this
        rw [hu] at this
        unfold Cell.okWide at this
        rw [hu] at this
        cases v <;> first | rfl | (simp [Cell.ok, hu] at this)
      obtain ⟨n, h0⟩ := h0
      rw [hc] at h0
      cases n with
      | zero => simp [DataW.trod] at h0
      | succ n =>
        obtain ⟨m, h2, _, h3⟩ := DataW.trod_int hu h0
        simp only [List.cons.injEq, and_true] at h2
        exact ⟨m, h2, h3⟩
    · cases hk
def LawI (P : Program) (f : FuncId) (ks : List IntKind) (L : World → Prop) : Prop := ∀ (W : World) (args : Array Value), L W → areI ks args.toList → Calls P f args W fun e W' => e = .returned (.bool true) ∧ Still W W'
structure RowOkI (P : Program) (f : FuncId) (fn : Func) (s : ChangeSpec) (ks : List IntKind) (L : List (String × DataW Unit)) : Prop where
  own : ownKnob P.godebug = none
  noInit : P.inits.idxOf? f = none
  isf : P.funcs[f]? = some fn
  laid : laidOutB P = true
  rowed : mapsRowed P = true
  full : slicesFull P = true
  params : fn.params.toList.all (fun t => decide (t < P.types.size)) = true
  vars : s.vars = []
  ret : ∃ bt, fn.resultTypes = #[bt] ∧ P.underlying bt = some .bool
  spec : ∀ (H : Type) (ds : List (DataW H)), ds.length = fn.params.toList.length → s.fn H ds = { results := [.lit (.bool true)], args := ds }
  tys : intTys P fn.params.toList = some ks
theorem RowOkI.calls {P : Program} {f : FuncId} {fn : Func} {s : ChangeSpec} {ks : List IntKind} {L : List (String × DataW Unit)} (R : RowOkI P f fn s ks L) (hL : LawI P f ks fun W => laidMetH P L W)
    {H : Type} {enc : TypeId × Value → H} {W : World} {base : Nat} {r : Reach} {args : Array Value} {ds gs : List (DataW H)} {before : List MemPlace} {apart fresh handsOn : Bool}
    (hW0 : laidMetH P L W) (hval : ∀ (j : Nat) t v, fn.params[j]? = some t → args[j]? = some v → Value.okWide P W r base t v) (hW : DataW.Whole enc P fn.params.toList s.vars apart W args.toList ds gs before) :
    Calls P f args W fun e W' => ∃ v, e = .returned v ∧ s.post enc P fn apart fresh handsOn false W args v W' := by
  obtain ⟨bt, hrt, hbt⟩ := R.ret
  obtain ⟨p, q, hA, hV, hb, hfz, hnd⟩ := id hW
  have hc := hL W args hW0 (areI_of (fun j t v h1 h2 => hval j t v (by simpa using h1) (by simpa using h2)) hA R.tys)
  refine hc.mono fun e W' ⟨he, hst⟩ => ⟨_, he, ?_⟩
  have hgs : gs = [] := by
    rw [R.vars] at hV; exact (trodVars_none hV).1
  subst hgs
  refine law_post (kids_rows R.laid R.rowed) (fun t e ht hu => ?_) (fun t ht => ?_) R.vars hbt hrt ?_ hW hst
  · have := R.full
    simp only [slicesFull, List.all_eq_true, List.mem_range] at this
    have := this t ht
    rw [hu] at this
    simpa using this
  · have := R.params
    simp only [List.all_eq_true, decide_eq_true_eq] at this
    exact this t ht
  · simp only [List.append_nil]
    exact R.spec H ds (trodAll_length hA)
theorem RowOkI.lifted {C : Checked} {f : FuncId} {fn : Func} {s : ChangeSpec} {ks : List IntKind} {L : List (String × DataW Unit)} (R : RowOkI C.prog f fn s ks L) (hL : LawI C.prog f ks fun W => laidMetH C.prog L W) {os : Os} (started : os.Started) {H : Type} {enc : TypeId × Value → H} {conds : List PathCond} {apart fresh handsOn : Bool}
    (witness : ∃ (w : World) (tape : Tape) (i : Input), w.os = os ∧ (w.forCall tape i).Shaped C.prog ∧ i.vars = [] ∧ Input.okWide C.prog (w.forCall tape i) .any w.heap.size f i ∧
      ((s.pre enc C.prog fn conds apart (w.forCall tape i).memory i.args ∧ laidMetH C.prog L (w.forCall tape i).memory) ∧ sizedMet enc C.prog fn (OpenSpec.ofChange s) apart (w.forCall tape i).memory i.args) ∧ ({} : Assume).holds C.prog (lone (Frame.enter C.prog f i.args .normal) [] (w.forCall tape i))) :
    ReturnsInHanded {} C os f .any (fun w args => (s.pre enc C.prog fn conds apart w args ∧ laidMetH C.prog L w) ∧ sizedMet enc C.prog fn (OpenSpec.ofChange s) apart w args) (s.post enc C.prog fn apart fresh handsOn false) :=
  returnsInHanded_of_change_and (X := fun w _ => laidMetH C.prog L w) (fun _ _ _ hh h => h.of_heap hh) R.own started R.noInit R.isf witness fun _ _ _ _ _ _ hval hW _ _ hL0 _ => R.calls hL hL0 hval hW
structure allN {α : Type} (Q : D8 → α → Prop) (x : N8 α) : Prop where
  h0 : Q .a x.x0
  h1 : Q .b x.x1
  h2 : Q .c x.x2
  h3 : Q .d x.x3
  h4 : Q .e x.x4
  h5 : Q .f x.x5
  h6 : Q .g x.x6
  h7 : Q .h x.x7
theorem allN.at {α : Type} {Q : D8 → α → Prop} {x : N8 α} (h : allN Q x) (i : D8) : Q i (x.g i) := by
  cases i with
  | a => exact h.h0
  | b => exact h.h1
  | c => exact h.h2
  | d => exact h.h3
  | e => exact h.h4
  | f => exact h.h5
  | g => exact h.h6
  | h => exact h.h7
theorem allN.e8 {α : Type} {Q : D8 → α → Prop} {x : α} (h : ∀ i, Q i x) : allN Q (e8 x) := ⟨h _, h _, h _, h _, h _, h _, h _, h _⟩
structure allT {α : Type} (Q : Pth → α → Prop) (x : Tr α) : Prop where
  s : allN (fun i => allN fun j => Q (.s i j)) x.s
  t : allN (fun i => allN fun j => allN fun k => Q (.t i j k)) x.t
  o : x.o = []
theorem allT_gt {α : Type} {d : α} {t : Tr α} {Q : Pth → α → Prop} (h : allT Q t) (hd : ∀ p, Q p d) (p : Pth) : Q p (gt d p t) := by
  cases p with
  | s i j => exact (h.s.at i).at j
  | t i j k => exact ((h.t.at i).at j).at k
  | o n => show Q _ (lkF d n t.o); rw [h.o]; exact hd _
theorem gtF_eq (p : Pth) (t : Tr FJ) : gtF p t = gt fdef p t := rfl
def FOk (Y : Lay) (P : Program) (n : Nat) (F : FJ) : Prop := ∃ (fn : Func) (c : Code), P.funcs[n]? = some fn ∧ (fn.name == "runtime.NumGoroutine") = false ∧ fn.body = some c ∧ compC Y P fn.ntmps c = some F.body ∧ compR P fn.results.toList = some F.res
def bodyC (Y : Lay) (P : Program) (fn : Func) : Option DJ := match fn.body with
  | some c => compC Y P fn.ntmps c
  | none => none
theorem fok {Y : Lay} {P : Program} {n : Nat} {F : FJ} (fn : Func) (h1 : P.funcs[n]? = some fn) (h2 : (fn.name == "runtime.NumGoroutine") = false) (h3 : bodyC Y P fn = some F.body) (h4 : compR P fn.results.toList = some F.res) : FOk Y P n F := by
  unfold bodyC at h3
  cases hb : fn.body with
  | none => rw [hb] at h3; cases h3
  | some c => rw [hb] at h3; exact ⟨fn, c, h1, h2, hb, h3, h4⟩
theorem prog_ok {Y : Lay} {P : Program} {t : Tr FJ} (h : allT (fun p F => F = fdef ∨ FOk Y P p.n F) t) : ProgOk Y P t := fun f => by
  rw [gtF_eq]
  exact allT_gt h (fun p => .inl rfl) f
abbrev ML := List (List V × V)
noncomputable def gtM (p : Pth) : Tr ML → ML := Pth.rec (motive := fun _ => Tr ML → ML) (fun i j t => N8.g j (N8.g i t.s)) (fun i j k t => N8.g k (N8.g j (N8.g i t.t))) (fun n t => lkF [] n t.o) p
theorem gtM_eq (p : Pth) (t : Tr ML) : gtM p t = gt [] p t := rfl
noncomputable def pmL (args : List V) (h : Hp) (l : ML) : Ans := List.rec none (fun x _ ih => Prod.rec (fun A v => Bool.rec ih (some (v, h)) (vsEq A args)) x) l
noncomputable def pmC (tbl : Tr ML) : Cal := fun s args h =>
  S.rec (fun _ => none) (fun _ _ => none) (fun _ _ => none) none (fun _ _ _ _ => none) none (fun _ _ => none) (fun f cs => List.rec (pmL args h (gtM f tbl)) (fun _ _ _ => none) cs) (fun _ _ _ _ => none) none (fun _ => none) (fun _ => none) none (fun _ => none) s
def hD : Hp := ⟨.e .dd, .s .a .b, 1000000000, 0, 0, [], false⟩
def noR : Pth → Bool := fun _ => false
noncomputable def valB (r : Ans) (v : V) : Bool := Option.rec false (fun q => Prod.rec (fun v' _ => vEq v v') q) r
theorem valB_out {r : Ans} {v : V} (h : valB r v = true) : ∃ h', r = some (v, h') := by
  cases r with
  | none => cases h
  | some q =>
    obtain ⟨v', h'⟩ := q
    rw [vEq_eq (show vEq v v' = true from h)]
    exact ⟨h', rfl⟩
noncomputable def pmB (cal : Cal) (f : Pth) (x : List V × V) : Bool := Prod.rec (fun A v => and (A.all (V.rf noR)) (and (v.rf noR) (valB (cal (.fn f []) A hD) v))) x
theorem pmL_some {args : List V} {h : Hp} : ∀ {l : ML} {r : RES}, pmL args h l = some r → ∃ v, (args, v) ∈ l ∧ r = (v, h)
  | [], r, hr => by cases hr
  | (A, v) :: l, r, hr => by
    have hr : (Bool.rec (pmL args h l) (some (v, h)) (vsEq A args) : Ans) = some r := hr
    cases hb : vsEq A args with
    | true =>
      rw [hb] at hr
      rw [vsEq_eq hb]
      cases hr
      exact ⟨v, List.mem_cons_self, rfl⟩
    | false =>
      rw [hb] at hr
      obtain ⟨v', h1, h2⟩ := pmL_some (l := l) hr
      exact ⟨v', List.mem_cons_of_mem _ h1, h2⟩
section
variable {Y : Lay} {P : Program} {κ : KP} {cal : Cal}
theorem hD_at (p : Pth) : hD.at p = .dd := gt_e _ p
theorem pmC_ok (hY : ∀ g p, Y.g = some (g, p) → p = .z) (HC : CalOk Y P κ cal) {tbl : Tr ML} (h : allT (fun f l => l.all (pmB cal f) = true) tbl) : CalOk Y P κ (pmC tbl) := fun s args h0 r h1 e w xs hκ hR hG hs hf hx => by
  cases s <;> first | (cases h1; done) | skip
  rename_i f cs
  cases cs with
  | cons _ _ => cases h1
  | nil =>
    have h1 : pmL args h0 (gtM f tbl) = some r := h1
    rw [gtM_eq] at h1
    obtain ⟨v, h2, rfl⟩ := pmL_some h1
    have hall := allT_gt (d := []) h (fun _ => rfl) f
    have h3 : pmB cal f (args, v) = true := List.all_eq_true.1 hall _ h2
    obtain ⟨c1, c2⟩ := and_t (show and (args.all (V.rf noR)) (and (v.rf noR) (valB (cal (.fn f []) args hD) v)) = true from h3)
    obtain ⟨c2, c3⟩ := and_t c2
    obtain ⟨h4, hr⟩ := valB_out c3
    have hR0 : Rel e hD w := by
      exact ⟨fun r _ => (by rw [hD_at]; trivial), fun r r' _ _ _ hw => (by rw [hD_at] at hw; cases hw), fun r _ => (by rw [hD_at]; rfl), fun r _ => (by rw [hD_at]; rfl)⟩
    have hG0 : Gl Y e (Pth.ok hD.n.n) := fun g p hg => by
      refine ⟨?_, (hG g p hg).2⟩
      rw [hY g p hg]; rfl
    have hC := HC _ _ _ _ hr e w xs hκ hR0 hG0 hs (by
      simp only [List.all_eq_true] at c1 ⊢
      exact fun x hx => V.rf_mono (fun p hp => by cases hp) (c1 x hx)) hx
    refine hC.mono fun x w' ⟨e', i1, i2, i3, i4⟩ => ?_
    have hk : ∀ b, b < w.heap.size → w'.heap[b]? = w.heap[b]? := fun b hb => i1.keep b hb fun r _ hw => (by rw [hD_at] at hw; cases hw)
    have S : Step e h0 w e h0 w' := ⟨⟨fun r hr => (hR.ok r hr).move (Agr.refl h0.n.n e) hr (hR.val r hr) i1.size fun hd => hk _ ((hR.ok r hr).lt hd), hR.sep, hR.val, hR.esc⟩, rfl, rfl, Agr.refl _ _, Nat.le_refl _, i1.os, i1.tape, i1.output, i1.size, fun b hb _ => hk b hb, fun r hr hw => .inl ⟨r, hr, hw, rfl⟩, fun r hr hw => .inl ⟨r, hr, hw, rfl⟩⟩
    have AF : AgrF noR e' e := ⟨fun r hr => (by cases hr), fun r hr => (by cases hr), i1.agr.ρ.symm, i1.agr.β.symm⟩
    exact ⟨e, S, rfl, AF.isu c2 i3, V.rf_mono (fun p hp => by cases hp) c2⟩
end
end Go.E
