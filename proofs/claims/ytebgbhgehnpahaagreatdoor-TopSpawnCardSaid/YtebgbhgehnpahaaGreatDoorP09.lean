/- A part of the proof of the claim that the last text of this folder states. -/
import Derived.Test.YtebgbhgehnpahaaGreatDoorP08
namespace Go.E
set_option linter.all false
section
variable {Y : Lay} {P : Program} {N M : Nat} {κ : KP} {cal : Cal} (R : Reg Y P N M κ cal)
def Reg.pendP (D : Nat → Prop) (s : Nat) (q : Pth) : Prop := ∃ (j i : Nat), s ≤ j ∧ R.ord[j]? = some i ∧ kindOf R.gl i = 2 ∧ D i ∧ q = (R.hp j).n
open Classical in
noncomputable def Reg.G (D : Nat → Prop) (s b : Nat) (q : Pth) : Bool := decide (q.n < (R.hp s).n.n ∨ (q.n < b ∧ R.pendP D s q))
theorem Reg.G_iff {D : Nat → Prop} {s b : Nat} {q : Pth} : R.G D s b q = true ↔ (q.n < (R.hp s).n.n ∨ (q.n < b ∧ R.pendP D s q)) := by unfold Reg.G; simp
theorem Reg.G_mono {D D' : Nat → Prop} {s b b' : Nat} (hD : ∀ i, D i → D' i) (hb : b ≤ b') {q : Pth} (h : R.G D s b q = true) : R.G D' s b' q = true := by
  rw [Reg.G_iff] at *
  rcases h with h | ⟨h1, j, i, h2, h3, h4, h5, h6⟩
  · exact .inl h
  · exact .inr ⟨by omega, j, i, h2, h3, h4, hD i h5, h6⟩
theorem Reg.push_at {j i : Nat} (h : R.ord[j]? = some i) (hk : kindOf R.gl i = 2) : ∃ x, R.hp (j + 1) = (R.hp j).push x := by
  obtain ⟨o, g, x, s, h1, h2, h3, h4, h5⟩ := R.at_ h
  rw [R.kd h2.hg] at hk
  exact (R.does (i := i) h5 h2.plain h3).2 hk
theorem Reg.G_stage {D : Nat → Prop} {s s' b : Nat} (hs : s ≤ s') (hl : s' ≤ R.ord.length) {q : Pth} (h : R.G D s b q = true) : R.G D s' b q = true := by
  rw [Reg.G_iff] at *
  rcases h with h | ⟨h1, j, i, h2, h3, h4, h5, h6⟩
  · exact .inl (Nat.lt_of_lt_of_le h (R.mono hs hl))
  · by_cases hj : s' ≤ j
    · exact .inr ⟨h1, j, i, hj, h3, h4, h5, h6⟩
    · obtain ⟨x, hx⟩ := R.push_at h3 h4
      have := R.mono (j := j + 1) (j' := s') (by omega) hl
      rw [hx, Hp.n_push] at this
      exact .inl (by rw [h6]; omega)
structure WI (D : Nat → Prop) (a : Act) (w : World) (s : Nat) (e : Env) : Prop where
  dc : DC R.ops D
  sle : s ≤ R.ord.length
  pre : ∀ j i : Nat, j < s → R.ord[j]? = some i → 2 ≤ kindOf R.gl i → D i
  nohv : ∀ j i : Nat, s ≤ j → R.ord[j]? = some i → kindOf R.gl i = 3 → ¬ D i
  hvp : s = 0 ∨ ∃ i : Nat, R.ord[s - 1]? = some i ∧ kindOf R.gl i = 3
  cum : Step R.e0 (R.hp 0) R.w0 e (R.hp s) w
  vals : ∀ (j i : Nat) o d, R.ord[j]? = some i → D i → R.ops[i]? = some o → o.dst = some d → (R.val j).rf (R.G D s (R.hp (j + 1)).n.n) = true ∧ Isu e (R.val j) (a.tmps.getD d undef)
  oth : ∀ p : Nat, (∀ (i : Nat) o, R.ops[i]? = some o → D i → o.dst ≠ some p) → a.tmps.getD p undef = R.a0.tmps.getD p undef
  tsz : a.tmps.size = M
  df : DfR P e (R.hp s).n.n (R.hp s).df a.defers
  pend : ∀ j i : Nat, s ≤ j → R.ord[j]? = some i → kindOf R.gl i = 2 → D i → ∃ x, R.hp (j + 1) = (R.hp j).push x ∧ x ≠ .dd ∧ x.rf (R.G D s (R.hp j).n.n) = true ∧ (i ≠ R.im → OkB e w (R.hp j).n x) ∧ (e.σ (R.hp j).n).1 < w.heap.size ∧ R.w0.heap.size ≤ (e.σ (R.hp j).n).1 ∧
    ∀ q : Pth, q.n < (R.hp s).n.n → (R.hp s).at q ≠ .dd → (e.σ q).1 ≠ (e.σ (R.hp j).n).1
  pdis : ∀ j i j' i' : Nat, s ≤ j → s ≤ j' → R.ord[j]? = some i → R.ord[j']? = some i' → kindOf R.gl i = 2 → kindOf R.gl i' = 2 → D i → D i' → j ≠ j' → (e.σ (R.hp j).n).1 ≠ (e.σ (R.hp j').n).1
structure KP' (D : Nat → Prop) (i0 s s' : Nat) (e e' : Env) (w w' : World) : Prop where
  new : ∀ j : Nat, R.ord[j]? = some i0 → kindOf R.gl i0 = 2 → ∀ x, R.hp (j + 1) = (R.hp j).push x → OkB e' w' (R.hp j).n x
  le : s ≤ s'
  pend : ∀ j i : Nat, s' ≤ j → R.ord[j]? = some i → kindOf R.gl i = 2 → D i → e'.σ (R.hp j).n = e.σ (R.hp j).n ∧ w'.heap[(e.σ (R.hp j).n).1]? = w.heap[(e.σ (R.hp j).n).1]?
  agr : ∀ b, AgrF (R.G D s b) e e'
variable {R} {D : Nat → Prop} {a : Act} {w : World} {s : Nat} {e : Env}
theorem KP'.refl {i0 : Nat} (h : kindOf R.gl i0 ≠ 2) : KP' R D i0 s s e e w w := ⟨fun _ _ k => absurd k h, Nat.le_refl _, fun _ _ _ _ _ _ => ⟨rfl, rfl⟩, fun _ => ⟨fun _ _ => rfl, fun _ _ => rfl, rfl, rfl⟩⟩
theorem WI.opd (W : WI R D a w s e) {j i : Nat} {o : Oper} {g : GJ} {x : XJ} {st : List Nat} (hj : R.ord[j]? = some i) (H : PosOk R.ops R.gl (R.ord.take j) i o g x st) (hi : ¬ D i) (hpr : ∀ p ∈ predsOf R.ops i, D p)
    {j2 : Nat} (hj2 : j2 = j ∨ (g.kind = 1 ∧ j ≤ j2 ∧ j2 ≤ R.ord.length)) {p : Nat} (hp : p ∈ o.looksAt R.ops) : (gt vu (Pth.of p) (R.tm j2)).rf (R.G D s (R.hp j).n.n) = true ∧ Isu e (gt vu (Pth.of p) (R.tm j2)) (a.tmps.getD p undef) := by
  have hjl : j < R.ord.length := (List.getElem?_eq_some_iff.1 hj).1
  have hle : j ≤ j2 ∧ j2 ≤ R.ord.length := by rcases hj2 with rfl | ⟨_, h1, h2⟩; exact ⟨Nat.le_refl _, by omega⟩; exact ⟨h1, h2⟩
  have base : gt vu (Pth.of p) (R.tm j2) = gt vu (Pth.of p) (R.tm 0) → a.tmps.getD p undef = R.a0.tmps.getD p undef → (gt vu (Pth.of p) (R.tm j2)).rf (R.G D s (R.hp j).n.n) = true ∧ Isu e (gt vu (Pth.of p) (R.tm j2)) (a.tmps.getD p undef) := fun h1 h2 => by
    rw [h1, h2]
    have hrf := Tr.rf_gt (p := Pth.of p) R.ts.rf
    have htr := R.ts.tr (Pth.of p)
    rw [Pth.of_n] at htr
    refine ⟨V.rf_mono (fun q hq => ?_) hrf, htr.imp id (W.cum.agr.is hrf)⟩
    rw [Reg.G_iff]
    have := Pth.ok_iff.1 hq
    have := R.mono (Nat.zero_le s) W.sle
    exact .inl (by omega)
  by_cases hex : ∃ (k : Nat) (o' : Oper), R.ops[k]? = some o' ∧ o'.dst = some p
  · obtain ⟨k, o', k1, k2⟩ := hex
    rcases H.rd k o' p k1 k2 hp with ⟨c1, c2⟩ | ⟨c1, c2⟩
    · have hDk : D k := H.anc D W.dc hpr k c1
      obtain ⟨jk, c3, c4⟩ := mem_take_iff.1 c2
      obtain ⟨v1, v2⟩ := W.vals jk k o' p c4 hDk k1 k2
      rw [R.tm_dst c4 k1 k2 (j := j2) (by omega) hle.2]
      exact ⟨V.rf_mono (fun q hq => R.G_mono (fun _ h => h) (R.mono (by omega) (by omega)) hq) v1, v2⟩
    · have hjj : j2 = j := by rcases hj2 with h | ⟨h, _⟩; exact h; exact absurd h c1
      refine base (R.tm_oth hle.2 fun j' i' o2 h1 h2 h3 h4 => ?_) (W.oth p fun i' o2 h1 h2 h3 => ?_)
      · rw [Pth.of_n] at h4
        by_cases hik : i' = k
        · rw [hik] at h2
          exact c2 (mem_take_iff.2 ⟨j', by omega, h2⟩)
        · obtain ⟨o3, g3, x3, s3, _, h5⟩ := R.pos j' i' h2
          have ho3 := h5.ho
          rw [h3] at ho3; cases ho3
          exact h5.dist k o' p k1 k2 (Ne.symm hik) h4
      · have hik : i' = k := by
          obtain ⟨j', hj'⟩ := R.all i' (Array.getElem?_eq_some_iff.1 h1).1 (R.noins h1 h3)
          obtain ⟨o3, g3, x3, s3, _, h5⟩ := R.pos j' i' hj'
          have ho3 := h5.ho
          rw [h1] at ho3; cases ho3
          by_cases hik : i' = k
          · exact hik
          · exact absurd h3 (h5.dist k o' p k1 k2 (Ne.symm hik))
        subst hik
        obtain ⟨jk, hjk⟩ := R.all i' (Array.getElem?_eq_some_iff.1 h1).1 (R.noins h1 h3)
        have hne : i' ≠ i := fun c => hi (c ▸ h2)
        have hlt : j < jk := by
          rcases Nat.lt_trichotomy j jk with c | c | c
          · exact c
          · rw [c] at hj; exact absurd (Option.some.inj (hjk.symm.trans hj)) hne
          · exact absurd (mem_take_iff.2 ⟨jk, c, hjk⟩) c2
        obtain ⟨o3, g3, x3, s3, _, h5⟩ := R.pos jk i' hjk
        have ho3 := h5.ho
        rw [h1] at ho3; cases ho3
        rcases h5.wr p h3 i (mem_take_iff.2 ⟨j, hlt, hj⟩) with h6 | h6
        · exact hi (h5.anc D W.dc (W.dc i' h2) i h6)
        · exact h6 o H.ho hp
  · refine base (R.tm_oth hle.2 fun j' i' o2 h1 h2 h3 h4 => hex ⟨i', o2, h3, by rw [Pth.of_n] at h4; exact h4⟩) (W.oth p fun i' o2 h1 h2 h3 => hex ⟨i', o2, h1, h3⟩)
theorem WI.ot (W : WI R D a w s e) {j i : Nat} {o : Oper} {g : GJ} {x : XJ} {st : List Nat} (hj : R.ord[j]? = some i) (H : PosOk R.ops R.gl (R.ord.take j) i o g x st) (hi : ¬ D i) (hpr : ∀ p ∈ predsOf R.ops i, D p)
    {j2 : Nat} (hj2 : j2 = j ∨ (g.kind = 1 ∧ j ≤ j2 ∧ j2 ≤ R.ord.length)) {f : Pth → Bool} (hf : ∀ q, R.G D s (R.hp j).n.n q = true → f q = true) : OT Y e (R.tm j2) f a (· ∈ o.op.operands) := by
  refine ⟨fun p hp => ?_, fun g p hg => ?_⟩
  · obtain ⟨h1, h2⟩ := W.opd hj H hi hpr hj2 (p := p) (List.mem_append_left _ (List.mem_filterMap.2 ⟨.tmp p, by simpa using hp, rfl⟩))
    exact ⟨V.rf_mono hf h1, h2⟩
  · obtain ⟨h1, h2⟩ := R.gly g p hg
    have h3 := Pth.ok_iff.1 h1
    refine ⟨hf p ?_, by rw [W.cum.agr.σ p h3]; exact h2⟩
    rw [Reg.G_iff]
    have := R.mono (Nat.zero_le s) W.sle
    exact .inl (by omega)
theorem yielded_at {ops : Array Oper} {oj : Oper} {j d : Nat} {t : T} (ht : Isu e (gt vu (Pth.of d) t) (a.tmps.getD d undef)) (hj : ops[j]? = some oj) (hd : oj.dst = some d) : (∀ q, gt vu (Pth.of d) t = .s (.b q) → yielded ops a.tmps j = some q) ∧ (gt vu (Pth.of d) t = vu → yielded ops a.tmps j = none) := by
  have hy : yielded ops a.tmps j = match a.tmps[d]? with | some (.bool b) => some b | _ => none := by
    simp only [yielded, hj, Option.bind_some, hd]
    rfl
  rw [Array.getD_eq_getD_getElem?] at ht
  refine ⟨fun q hq => ?_, fun hq => ?_⟩
  · rw [hq] at ht
    rcases ht with ht | ht
    · cases ht
    · have ht := ht.eq (by rfl)
      rw [hy]
      cases hx : a.tmps[d]? with
      | none => rw [hx] at ht; cases ht
      | some x =>
        rw [hx] at ht
        simp only [Option.getD_some] at ht
        rw [ht]; rfl
  · rw [hq] at ht
    rcases ht with ht | ht
    · cases ht
    · have ht := ht.eq (by rfl)
      rw [hy]
      cases hx : a.tmps[d]? with
      | none => rfl
      | some x =>
        rw [hx] at ht
        simp only [Option.getD_some] at ht
        rw [ht]; rfl
theorem WI.wanted (W : WI R D a w s e) {j i : Nat} {o : Oper} {g : GJ} {x : XJ} {st : List Nat} (hj : R.ord[j]? = some i) (H : PosOk R.ops R.gl (R.ord.take j) i o g x st) (hi : ¬ D i) (hpr : ∀ p ∈ predsOf R.ops i, D p) (hg : compG Y P N R.ops o = some g)
    {j2 : Nat} (hj2 : j2 = j ∨ (g.kind = 1 ∧ j ≤ j2 ∧ j2 ≤ R.ord.length)) : (g.on (R.tm j2) → Region.wanted o (yielded R.ops a.tmps) = true) ∧ (g.off (R.tm j2) → Region.wanted o (yielded R.ops a.tmps) = false) := by
  obtain ⟨_, _, _, h4⟩ := compG_op hg
  rcases h4 with ⟨h1, h2⟩ | ⟨jg, want, oj, d, h1, h2, h3, h4⟩
  · refine ⟨fun _ => by simp [Region.wanted, h1], fun h => ?_⟩
    unfold GJ.off at h; rw [h2] at h; exact h.elim
  · have hd : d ∈ o.looksAt R.ops := by
      unfold Oper.looksAt
      refine List.mem_append_right _ ?_
      rw [h1]
      simp [h2, h3]
    obtain ⟨y1, y2⟩ := yielded_at (W.opd hj H hi hpr hj2 hd).2 h2 h3
    have hw : Region.wanted o (yielded R.ops a.tmps) = (yielded R.ops a.tmps jg == some want) := by simp [Region.wanted, h1]
    refine ⟨fun h => ?_, fun h => ?_⟩
    · unfold GJ.on at h; rw [h4] at h
      rw [hw, y1 want h]; simp
    · unfold GJ.off at h; rw [h4] at h
      rcases h with h | h
      · rw [hw, y2 h]; rfl
      · rw [hw, y1 _ h]; cases want <;> rfl
end
theorem Step.join {e0 e : Env} {h0 h : Hp} {w0 w : World} {x : B} (S : Step e0 h0 w0 e h w) (hx : OkB e w h.n x) (hv : x.ok h.n.n = true) (hne : ∀ q : Pth, q.n < h.n.n → h.at q ≠ .dd → (e.σ q).1 ≠ (e.σ h.n).1) (hf : w0.heap.size ≤ (e.σ h.n).1) : Step e0 h0 w0 e (h.push x) w := by
  have he : e.lay h.n (e.σ h.n) (e.δ h.n) = e := by
    unfold Env.lay
    have h1 : (fun q => if q = h.n then e.σ h.n else e.σ q) = e.σ := by funext q; split <;> simp_all
    have h2 : (fun q => if q = h.n then e.δ h.n else e.δ q) = e.δ := by funext q; split <;> simp_all
    rw [h1, h2]
  have hR := S.rel.new (w' := w) (e.σ h.n) (e.δ h.n) (by rw [he]; exact hx) hv (fun _ _ _ => rfl) hne (Nat.le_refl _)
  rw [he] at hR
  have hn := Hp.n_push h x
  refine ⟨hR, S.fz, S.ch, S.agr, by rw [hn]; have := S.le; omega, S.os, S.tape, S.output, S.size, S.keep, fun q hq hqw => ?_, fun q hq hqw => ?_⟩
  · rw [Hp.at_push] at hqw
    rcases push_cs hq with c | ⟨c, c2⟩
    · rw [c]; exact .inr hf
    · rw [if_neg c2] at hqw; exact S.mine q c hqw
  · rw [Hp.at_push] at hqw
    rcases push_cs hq with c | ⟨c, c2⟩
    · rw [c]; exact .inr hf
    · rw [if_neg c2] at hqw; exact S.nd q c hqw
section
variable {Y : Lay} {P : Program} {N M : Nat} {κ : KP} {cal : Cal} {R : Reg Y P N M κ cal} {D : Nat → Prop} {a : Act} {w : World} {s : Nat} {e : Env}
def addD (D : Nat → Prop) (i : Nat) : Nat → Prop := fun k => k = i ∨ D k
theorem addD_dc {ops : Array Oper} (h : DC ops D) {i : Nat} (hp : ∀ p ∈ predsOf ops i, D p) : DC ops (addD D i) := by
  intro k hk p hpk
  rcases hk with rfl | hk
  · exact .inr (hp p hpk)
  · exact .inr (h k hk p hpk)
theorem Act.put_at {a : Act} {d : Nat} {x : Value} (hd : d < a.tmps.size) : (a.put (some d) x).tmps.getD d undef = x := by simp [Act.put, Array.getD, hd]
theorem Act.put_ne {a : Act} {d : Option Nat} {x : Value} {p : Nat} (h : d ≠ some p) : (a.put d x).tmps.getD p undef = a.tmps.getD p undef := by
  cases d with
  | none => rfl
  | some d =>
    have hne : d ≠ p := fun c => h (by rw [c])
    simp [Act.put, Array.getD_eq_getD_getElem?, Array.getElem?_setIfInBounds, hne]
theorem WI.vals_put (W : WI R D a w s e) {j i : Nat} {o : Oper} {g : GJ} {st : List Nat} {y : XJ} (hj : R.ord[j]? = some i) (H : PosOk R.ops R.gl (R.ord.take j) i o g y st) (hg : compG Y P N R.ops o = some g) {x : Value} {s' : Nat} {e' : Env} {G' : Nat → Pth → Bool}
    (hold : ∀ (j2 : Nat) (v : V) (z : Value), v.rf (R.G D s (R.hp (j2 + 1)).n.n) = true → Isu e v z → v.rf (G' j2) = true ∧ Isu e' v z) (hnew : ∀ d, o.dst = some d → (R.val j).rf (G' j) = true ∧ Isu e' (R.val j) x) :
    ∀ (j2 i2 : Nat) o2 d2, R.ord[j2]? = some i2 → addD D i i2 → R.ops[i2]? = some o2 → o2.dst = some d2 → (R.val j2).rf (G' j2) = true ∧ Isu e' (R.val j2) ((a.put o.dst x).tmps.getD d2 undef) := by
  intro j2 i2 o2 d2 h1 h2 h3 h4
  obtain ⟨_, _, hb, _⟩ := compG_op hg
  by_cases hi : i2 = i
  · subst hi
    have := R.uniq h1 hj
    subst this
    have ho := H.ho
    rw [h3] at ho
    cases ho
    rw [h4, Act.put_at (by rw [W.tsz]; exact Nat.lt_of_lt_of_le (hb d2 h4) R.hNM)]
    exact hnew d2 h4
  · have hD : D i2 := h2.resolve_left hi
    rw [Act.put_ne (H.dist i2 o2 d2 h3 h4 hi)]
    obtain ⟨k1, k2⟩ := W.vals j2 i2 o2 d2 h1 hD h3 h4
    exact hold j2 _ _ k1 k2
theorem WI.oth_put (W : WI R D a w s e) {i : Nat} {o : Oper} (ho : R.ops[i]? = some o) {x : Value} : ∀ p : Nat, (∀ (k : Nat) o2, R.ops[k]? = some o2 → addD D i k → o2.dst ≠ some p) → (a.put o.dst x).tmps.getD p undef = R.a0.tmps.getD p undef := fun p h => by
  rw [Act.put_ne (h i o ho (.inl rfl))]
  exact W.oth p fun k o2 h1 h2 => h k o2 h1 (.inr h2)
theorem WI.light (W : WI R D a w s e) {j i : Nat} {o : Oper} {g : GJ} {st : List Nat} {y : XJ} (hj : R.ord[j]? = some i) (H : PosOk R.ops R.gl (R.ord.take j) i o g y st) (hg : compG Y P N R.ops o = some g) (hpr : ∀ p ∈ predsOf R.ops i, D p) (hk : kindOf R.gl i ≤ 1) {x : Value}
    (hnew : ∀ d, o.dst = some d → (R.val j).rf (R.G D s (R.hp (j + 1)).n.n) = true ∧ Isu e (R.val j) x) : WI R (addD D i) (a.put o.dst x) w s e := by
  have hne : ∀ {k : Nat}, kindOf R.gl k = 2 ∨ kindOf R.gl k = 3 → k ≠ i := fun h c => by rw [c] at h; omega
  have hG : ∀ b q, R.G D s b q = true → R.G (addD D i) s b q = true := fun b q => R.G_mono (fun _ h => .inr h) (Nat.le_refl _)
  refine ⟨addD_dc W.dc hpr, W.sle, fun j2 i2 h1 h2 h3 => .inr (W.pre j2 i2 h1 h2 h3), fun j2 i2 h1 h2 h3 h4 => ?_, W.hvp, W.cum, W.vals_put (s' := s) hj H hg (G' := fun j2 => R.G (addD D i) s (R.hp (j2 + 1)).n.n) (fun j2 v z h1 h2 => ⟨V.rf_mono (hG _) h1, h2⟩) (fun d hd => ⟨V.rf_mono (hG _) (hnew d hd).1, (hnew d hd).2⟩), W.oth_put H.ho, by rw [put_size]; exact W.tsz, by rw [put_defers]; exact W.df, fun j2 i2 h1 h2 h3 h4 => ?_, fun j1 i1 j2 i2 h1 h2 h3 h4 h5 h6 h7 h8 h9 => ?_⟩
  · exact W.nohv j2 i2 h1 h2 h3 (h4.resolve_left (hne (.inr h3)))
  · obtain ⟨x, k1, k2, k3, k4, kl, k5, k6⟩ := W.pend j2 i2 h1 h2 h3 (h4.resolve_left (hne (.inl h3)))
    exact ⟨x, k1, k2, B.rf_mono (hG _) k3, k4, kl, k5, k6⟩
  · exact W.pdis j1 i1 j2 i2 h1 h2 h3 h4 h5 h6 (h7.resolve_left (hne (.inl h5))) (h8.resolve_left (hne (.inl h6))) h9
theorem WI.make (W : WI R D a w s e) {j i : Nat} {o : Oper} {g : GJ} {st : List Nat} {y : XJ} (hj : R.ord[j]? = some i) (H : PosOk R.ops R.gl (R.ord.take j) i o g y st) (hg : compG Y P N R.ops o = some g) (hi : ¬ D i) (hpr : ∀ p ∈ predsOf R.ops i, D p) (hk : kindOf R.gl i = 2) {x : B} {w' : World} {z : Value} {d : Nat}
    (hpush : R.hp (j + 1) = (R.hp j).push x) (hxd : x ≠ .dd) (hxf : x.rf (R.G D s (R.hp j).n.n) = true) (hM : More w w') (hval : ∀ d2, o.dst = some d2 → (∀ f : Pth → Bool, f (R.hp j).n = true → (R.val j).rf f = true) ∧ Is (e.lay (R.hp j).n (w.heap.size, 0) d) (R.val j) z)
    (hok : OkB (e.lay (R.hp j).n (w.heap.size, 0) d) w' (R.hp j).n x) : ∃ e', WI R (addD D i) (a.put o.dst z) w' s e' ∧ KP' R D i s s e e' w w' := by
  have hjl : j < R.ord.length := (List.getElem?_eq_some_iff.1 hj).1
  have hsj : s ≤ j := by
    rcases Nat.lt_or_ge j s with c | c
    · exact absurd (W.pre j i c hj (by omega)) hi
    · exact c
  obtain ⟨p, hp⟩ : ∃ p, p = (R.hp j).n := ⟨_, rfl⟩
  obtain ⟨e', he'⟩ : ∃ e', e' = e.lay p (w.heap.size, 0) d := ⟨_, rfl⟩
  rw [← hp, ← he'] at hok hval
  have hps : (R.hp s).n.n ≤ p.n := by rw [hp]; exact R.mono hsj (by omega)
  have hpj : ∀ {j2 i2 : Nat}, R.ord[j2]? = some i2 → kindOf R.gl i2 = 2 → D i2 → (R.hp j2).n ≠ p := fun {j2 i2} h1 h2 h3 c => by
    have hne : j2 ≠ j := fun c => by rw [c] at h1; rw [hj] at h1; cases h1; exact hi h3
    have hl2 : j2 < R.ord.length := (List.getElem?_eq_some_iff.1 h1).1
    have c : (R.hp j2).n.n = (R.hp j).n.n := by rw [c, hp]
    rcases Nat.lt_trichotomy j2 j with k | k | k
    · obtain ⟨x2, hx2⟩ := R.push_at h1 h2
      have := R.mono (j := j2 + 1) (j' := j) (by omega) (by omega)
      rw [hx2, Hp.n_push] at this; omega
    · exact hne k
    · have := R.mono (j := j + 1) (j' := j2) (by omega) (by omega)
      rw [hpush, Hp.n_push] at this; omega
  have hGp : ∀ b, R.G D s b p = false := fun b => by
    cases hb : R.G D s b p with
    | false => rfl
    | true =>
      rcases (R.G_iff).1 hb with h | ⟨_, j2, i2, h2, h3, h4, h5, h6⟩
      · omega
      · exact absurd h6.symm (hpj h3 h4 h5)
  have AF : ∀ b, AgrF (R.G D s b) e e' := fun b => by rw [he']; exact lay_agrF (hGp b) _ _
  have A : Agr (R.hp s).n.n e e' := by
    have hne : ∀ q : Pth, q.n < (R.hp s).n.n → q ≠ p := fun q hq c => by rw [c] at hq; omega
    rw [he']
    exact ⟨fun q hq => if_neg (hne q hq), fun q hq => if_neg (hne q hq), rfl, rfl, rfl⟩
  have hσp : e'.σ p = (w.heap.size, 0) := by rw [he']; exact lay_σ ..
  have hσo : ∀ q, q ≠ p → e'.σ q = e.σ q ∧ e'.δ q = e.δ q := fun q hq => by rw [he']; exact ⟨if_neg hq, if_neg hq⟩
  have hG : ∀ b q, R.G D s b q = true → R.G (addD D i) s b q = true := fun b q => R.G_mono (fun _ h => .inr h) (Nat.le_refl _)
  have hcs : ∀ {k : Nat}, k ≠ i → addD D i k → D k := fun h1 h2 => h2.resolve_left h1
  have hlt : ∀ {j2 i2 : Nat}, s ≤ j2 → R.ord[j2]? = some i2 → kindOf R.gl i2 = 2 → D i2 → (e.σ (R.hp j2).n).1 < w.heap.size := fun h1 h2 h3 h4 => by
    obtain ⟨x2, _, _, _, _, kl, _⟩ := W.pend _ _ h1 h2 h3 h4
    exact kl
  have hcum : Step R.e0 (R.hp 0) R.w0 e' (R.hp s) w' := by
    refine W.cum.trans ⟨⟨fun r hr => (W.cum.rel.ok r hr).move A hr (W.cum.rel.val r hr) (by have := hM.size; omega) fun hd => hM.old _ ((W.cum.rel.ok r hr).lt hd), fun r r' hr hr' => by rw [A.σ r hr, A.σ r' hr']; exact W.cum.rel.sep r r' hr hr', W.cum.rel.val, W.cum.rel.esc⟩, rfl, rfl, A, Nat.le_refl _, hM.os, hM.tape, hM.output, by have := hM.size; omega, fun b hb _ => hM.old b hb, fun r hr hw => .inl ⟨r, hr, hw, by rw [A.σ r hr]⟩, fun r hr hw => .inl ⟨r, hr, hw, by rw [A.σ r hr]⟩⟩
  refine ⟨e', ⟨addD_dc W.dc hpr, W.sle, fun j2 i2 h1 h2 h3 => .inr (W.pre j2 i2 h1 h2 h3), fun j2 i2 h1 h2 h3 h4 => ?_, W.hvp, hcum, W.vals_put (s' := s) hj H hg (G' := fun j2 => R.G (addD D i) s (R.hp (j2 + 1)).n.n) (fun j2 v z h1 h2 => ⟨V.rf_mono (hG _) h1, (AF _).isu h1 h2⟩) (fun d2 hd2 => ⟨(hval d2 hd2).1 _ ?_, .inr (hval d2 hd2).2⟩), W.oth_put H.ho, by rw [put_size]; exact W.tsz, by rw [put_defers]; exact W.df.agr A (Nat.le_refl _), fun j2 i2 h1 h2 h3 h4 => ?_, fun j1 i1 j2 i2 h1 h2 h3 h4 h5 h6 h7 h8 h9 => ?_⟩, ⟨fun j2 h1 _ x2 h3 => by
    have := R.uniq h1 hj
    subst this
    have h4 : (R.hp j2).push x2 = (R.hp j2).push x := h3.symm.trans hpush
    have h5 := congrArg (fun z : Hp => z.at (R.hp j2).n) h4
    simp only [Hp.at_push, if_true] at h5
    rw [h5, ← hp]; exact hok, Nat.le_refl _, fun j2 i2 h1 h2 h3 h4 => ⟨(hσo _ (hpj h2 h3 h4)).1, hM.old _ (hlt h1 h2 h3 h4)⟩, AF⟩⟩
  · exact W.nohv j2 i2 h1 h2 h3 (hcs (fun c => by rw [c, hk] at h3; cases h3) h4)
  · rw [R.G_iff]
    exact .inr ⟨by rw [hpush, Hp.n_push, hp]; omega, j, i, hsj, hj, hk, .inl rfl, hp⟩
  · by_cases hi2 : i2 = i
    · subst hi2
      have := R.uniq h2 hj
      subst this
      rw [← hp]
      refine ⟨x, hpush, hxd, B.rf_mono (hG _) (by rw [hp]; exact hxf), fun _ => hok, hok.lt hxd, by rw [hσp]; exact W.cum.size, fun q hq hqd => ?_⟩
      rw [A.σ q hq, hσp]
      have := (W.cum.rel.ok q hq).lt hqd
      show (e.σ q).1 ≠ w.heap.size
      omega
    · have hD := hcs hi2 h4
      obtain ⟨x2, k1, k2, k3, k4, kl, k5, k6⟩ := W.pend j2 i2 h1 h2 h3 hD
      obtain ⟨q1, q2⟩ := hσo _ (hpj h2 h3 hD)
      refine ⟨x2, k1, k2, B.rf_mono (hG _) k3, fun him => ?_, by rw [q1]; have := hM.size; omega, by rw [q1]; exact k5, fun q hq hqd => by rw [q1, A.σ q hq]; exact k6 q hq hqd⟩
      exact (k4 him).moveF (AF _) (by rw [he']; rfl) q1 q2 k3 (by have := hM.size; omega) fun hd => hM.old _ kl
  · by_cases c1 : i1 = i
    · have : j1 = j := R.uniq (by rw [← c1]; exact h3) hj
      have c2 : i2 ≠ i := fun c => h9 (this.trans (R.uniq (by rw [← c]; exact h4) hj).symm)
      have hD2 := hcs c2 h8
      rw [this, ← hp, hσp, (hσo _ (hpj h4 h6 hD2)).1]
      have := hlt h2 h4 h6 hD2
      show w.heap.size ≠ _
      omega
    · have hD1 := hcs c1 h7
      by_cases c2 : i2 = i
      · have : j2 = j := R.uniq (by rw [← c2]; exact h4) hj
        rw [this, ← hp, hσp, (hσo _ (hpj h3 h5 hD1)).1]
        have := hlt h1 h3 h5 hD1
        show _ ≠ w.heap.size
        omega
      · have hD2 := hcs c2 h8
        rw [(hσo _ (hpj h3 h5 hD1)).1, (hσo _ (hpj h4 h6 hD2)).1]
        exact W.pdis j1 i1 j2 i2 h1 h2 h3 h4 h5 h6 hD1 hD2 h9
theorem WI.catch (W : WI R D a w s e) {j : Nat} (hsj : s ≤ j) (hl : j ≤ R.ord.length) (h3 : ∀ j' i : Nat, s ≤ j' → j' < j → R.ord[j']? = some i → kindOf R.gl i ≠ 3) (h2 : ∀ j' i : Nat, s ≤ j' → j' < j → R.ord[j']? = some i → kindOf R.gl i = 2 → D i) (h4 : ∀ j' i : Nat, s ≤ j' → j' < j → R.ord[j']? = some i → i ≠ R.im) :
    Step R.e0 (R.hp 0) R.w0 e (R.hp j) w ∧ DfR P e (R.hp j).n.n (R.hp j).df a.defers ∧
    ∀ j' i : Nat, j ≤ j' → R.ord[j']? = some i → kindOf R.gl i = 2 → D i → ∀ q : Pth, q.n < (R.hp j).n.n → (R.hp j).at q ≠ .dd → (e.σ q).1 ≠ (e.σ (R.hp j').n).1 := by
  induction j with
  | zero =>
    have : s = 0 := by omega
    subst this
    exact ⟨W.cum, W.df, fun j' i c1 c2 c3 c4 => by obtain ⟨x, _, _, _, _, _, _, k6⟩ := W.pend j' i c1 c2 c3 c4; exact k6⟩
  | succ m ih =>
    by_cases hs : s = m + 1
    · subst hs
      exact ⟨W.cum, W.df, fun j' i c1 c2 c3 c4 => by obtain ⟨x, _, _, _, _, _, _, k6⟩ := W.pend j' i c1 c2 c3 c4; exact k6⟩
    · have hm : m < R.ord.length := by omega
      obtain ⟨i1, i2, i3⟩ := ih (by omega) (by omega) (fun j' i c1 c2 => h3 j' i c1 (by omega)) (fun j' i c1 c2 => h2 j' i c1 (by omega)) (fun j' i c1 c2 => h4 j' i c1 (by omega))
      have hom : R.ord[m]? = some R.ord[m] := List.getElem?_eq_getElem hm
      obtain ⟨o, g, x, st, k1, k2, k3, k4, k5⟩ := R.at_ hom
      have hk3 := h3 m _ (by omega) (by omega) hom
      obtain ⟨d1, d2⟩ := R.does (i := R.ord[m]) k5 k2.plain k3
      rw [R.kd k2.hg] at hk3
      have hop : ∀ op : J, op.kind ≤ 3 := fun op => by cases op <;> simp [J.kind]
      have hkle : g.kind ≤ 3 := by
        cases g with
        | g d op => exact hop op
        | c d op j w =>
          show (if op.kind = 2 then 3 else op.kind) ≤ 3
          split
          · omega
          · exact hop op
      by_cases hk : g.kind = 2
      · have hD := h2 m _ (by omega) (by omega) hom (by rw [R.kd k2.hg]; exact hk)
        obtain ⟨y, q1, q2, q3, q4, _, q5, q6⟩ := W.pend m _ (by omega) hom (by rw [R.kd k2.hg]; exact hk) hD
        have hyok : y.ok (R.hp m).n.n = true := B.rf_mono (fun q hq => by
          rw [Pth.ok_iff]
          rcases (R.G_iff).1 hq with h | ⟨h, _⟩
          · have := R.mono (j := s) (j' := m) (by omega) (by omega); omega
          · exact h) q3
        have hne := i3 m _ (Nat.le_refl _) hom (by rw [R.kd k2.hg]; exact hk) hD
        rw [q1]
        refine ⟨i1.join (q4 (h4 m _ (by omega) (by omega) hom)) hyok hne q5, ?_, fun j' i c1 c2 c3 c4 q hq hqd => ?_⟩
        · exact i2.agr (Agr.refl _ _) (by rw [Hp.n_push]; omega)
        · rw [Hp.at_push] at hqd
          rcases push_cs hq with c | ⟨c, c0⟩
          · rw [c]
            exact W.pdis m _ j' i (by omega) (by omega) hom c2 (by rw [R.kd k2.hg]; exact hk) c3 hD c4 (by omega)
          · rw [if_neg c0] at hqd
            exact i3 j' i (by omega) c2 c3 c4 q c hqd
      · rw [d1 (by omega)]
        exact ⟨i1, i2, fun j' i c1 => i3 j' i (by omega)⟩
end
theorem putT_inj {p : Pth} {t : T} {v v' : V} (h : putT (some p) t v = putT (some p) t v') : v = v' := by
  have := congrArg (gt vu p) h
  simpa only [putT, gt_st, if_true] using this
theorem Does.eq {g : GJ} {cal : Cal} {t : T} {h h' h2 : Hp} {v v2 : V} (H : Does g cal t h v h') (K : ∀ k, exG g cal t h k = k (putT g.d t v2) h2) : h' = h2 ∧ ∀ d, g.d = some d → v = v2 := by
  have h1 := (H fun _ h => some (vu, h)).symm.trans (K fun _ h => some (vu, h))
  have h2 := fun d => (H fun t h => some (gt vu d t, h)).symm.trans (K fun t h => some (gt vu d t, h))
  refine ⟨by cases h1; rfl, fun d hd => ?_⟩
  have := h2 d
  rw [hd] at this
  simp only [putT, gt_st, if_true, Option.some.injEq, Prod.mk.injEq] at this
  exact this.1
section
variable {Y : Lay} {P : Program} {N M : Nat} {κ : KP} {cal : Cal} {R : Reg Y P N M κ cal} {D : Nat → Prop} {a : Act} {w : World} {s : Nat} {e : Env}
theorem J.kind_le (op : J) : op.kind ≤ 3 := by cases op <;> simp [J.kind]
theorem GJ.kind_le (g : GJ) : g.kind ≤ 3 := by
  cases g with
  | g d op => exact op.kind_le
  | c d op j w =>
    show (if op.kind = 2 then 3 else op.kind) ≤ 3
    split
    · omega
    · exact op.kind_le
theorem kindOf_le (gl : List GJ) (i : Nat) : kindOf gl i ≤ 3 := by
  unfold kindOf
  split
  · exact GJ.kind_le _
  · omega
theorem WI.heavy (W : WI R D a w s e) {j i : Nat} {o : Oper} {g : GJ} {st : List Nat} {y : XJ} (hj : R.ord[j]? = some i) (H : PosOk R.ops R.gl (R.ord.take j) i o g y st) (hg : compG Y P N R.ops o = some g) (hi : ¬ D i) (hpr : ∀ p ∈ predsOf R.ops i, D p) (hk : kindOf R.gl i = 3) :
    s ≤ j ∧ Step R.e0 (R.hp 0) R.w0 e (R.hp j) w ∧ ∀ (e1 : Env) (w' : World) (z : Value), Step e (R.hp j) w e1 (R.hp (j + 1)) w' → (R.hp (j + 1)).df = (R.hp j).df → (∀ d, o.dst = some d → (R.val j).ok (R.hp (j + 1)).n.n = true ∧ Isu e1 (R.val j) z) → ∃ e', WI R (addD D i) (a.put o.dst z) w' (j + 1) e' ∧ KP' R D i s (j + 1) e e' w w' := by
  have hjl : j < R.ord.length := (List.getElem?_eq_some_iff.1 hj).1
  have hsj : s ≤ j := by
    rcases Nat.lt_or_ge j s with c | c
    · exact absurd (W.pre j i c hj (by omega)) hi
    · exact c
  have hgk : g.kind = 3 := by rw [R.kd H.hg] at hk; exact hk
  have hanc : ∀ (j' i' : Nat), j' < j → R.ord[j']? = some i' → kindOf R.gl i' = 3 ∨ kindOf R.gl i' = 2 → D i' := fun j' i' h1 h2 h3 => H.anc D W.dc hpr i' (H.hv i' (mem_take_iff.2 ⟨j', h1, h2⟩) hgk h3)
  have h3 : ∀ j' i' : Nat, s ≤ j' → j' < j → R.ord[j']? = some i' → kindOf R.gl i' ≠ 3 := fun j' i' c1 c2 c3 c4 => W.nohv j' i' c1 c3 c4 (hanc j' i' c2 c3 (.inl c4))
  have h2 : ∀ j' i' : Nat, s ≤ j' → j' < j → R.ord[j']? = some i' → kindOf R.gl i' = 2 → D i' := fun j' i' c1 c2 c3 c4 => hanc j' i' c2 c3 (.inr c4)
  obtain ⟨C1, C2, C3⟩ := W.catch hsj (by omega) h3 h2 (fun j' i' _ c2 c3 c4 => by
    subst c4
    have := R.imz j' j i c3 hj hk
    omega)
  refine ⟨hsj, C1, fun e1 w' z S hdf hz => ?_⟩
  have hpl : ∀ {j2 i2 : Nat}, j + 1 ≤ j2 → R.ord[j2]? = some i2 → (R.hp (j + 1)).n.n ≤ (R.hp j2).n.n := fun h1 h2 => R.mono h1 (by have := (List.getElem?_eq_some_iff.1 h2).1; omega)
  classical
  obtain ⟨e', he'⟩ : ∃ e' : Env, e' = { e1 with σ := fun q => if R.pendP D (j + 1) q then e.σ q else e1.σ q, δ := fun q => if R.pendP D (j + 1) q then e.δ q else e1.δ q } := ⟨_, rfl⟩
  have hnp : ∀ {q : Pth}, q.n < (R.hp (j + 1)).n.n → ¬ R.pendP D (j + 1) q := fun {q} hq ⟨j2, i2, c1, c2, c3, c4, c5⟩ => by
    have := hpl c1 c2
    rw [c5] at hq; omega
  have A : Agr (R.hp (j + 1)).n.n e1 e' := by
    rw [he']
    exact ⟨fun q hq => if_neg (hnp hq), fun q hq => if_neg (hnp hq), rfl, rfl, rfl⟩
  have hle := S.le
  have hpat : ∀ {q : Pth}, R.pendP D (j + 1) q → e'.σ q = e.σ q ∧ e'.δ q = e.δ q := fun hq => by rw [he']; exact ⟨if_pos hq, if_pos hq⟩
  have hlow : ∀ {q : Pth}, q.n < (R.hp j).n.n → e'.σ q = e.σ q ∧ e'.δ q = e.δ q := fun {q} hq => by
    rw [A.σ q (by omega), A.δ q (by omega), S.agr.σ q hq, S.agr.δ q hq]; exact ⟨rfl, rfl⟩
  have hGs : ∀ b (q : Pth), R.G D s b q = true → e'.σ q = e.σ q ∧ e'.δ q = e.δ q := fun b q hq => by
    rcases (R.G_iff).1 hq with h | ⟨_, j2, i2, c1, c2, c3, c4, c5⟩
    · have := R.mono (j := s) (j' := j) hsj (by omega)
      exact hlow (by omega)
    · rcases Nat.lt_trichotomy j2 j with k | k | k
      · obtain ⟨x2, hx2⟩ := R.push_at c2 c3
        have := R.mono (j := j2 + 1) (j' := j) (by omega) (by omega)
        rw [hx2, Hp.n_push] at this
        exact hlow (by rw [c5]; omega)
      · rw [k, hj] at c2; cases c2; rw [hk] at c3; cases c3
      · exact hpat ⟨j2, i2, k, c2, c3, c4, c5⟩
  have hκρ : e'.ρ = e.ρ ∧ e'.β = e.β ∧ e'.κ = e.κ := ⟨A.ρ.trans S.agr.ρ, A.β.trans S.agr.β, A.κ.trans S.agr.κ⟩
  have AF : ∀ b, AgrF (R.G D s b) e e' := fun b => ⟨fun q hq => (hGs b q hq).1, fun q hq => (hGs b q hq).2, hκρ.1, hκρ.2.1⟩
  have hG : ∀ b q, R.G D s b q = true → R.G (addD D i) (j + 1) b q = true := fun b q h => R.G_mono (fun _ h => .inr h) (Nat.le_refl _) (R.G_stage (by omega) (by omega) h)
  have hcs : ∀ {k : Nat}, k ≠ i → addD D i k → D k := fun h1 h2 => h2.resolve_left h1
  have hki : ∀ {k : Nat}, kindOf R.gl k = 2 → k ≠ i := fun h c => by rw [c, hk] at h; cases h
  refine ⟨e', ⟨addD_dc W.dc hpr, by omega, fun j2 i2 c1 c2 c3 => ?_, fun j2 i2 c1 c2 c3 c4 => ?_, .inr ⟨i, by simpa using hj, hk⟩, (C1.trans S).agr2 A, W.vals_put (s' := j + 1) hj H hg (G' := fun j2 => R.G (addD D i) (j + 1) (R.hp (j2 + 1)).n.n) (fun j2 v z c1 c2 => ⟨V.rf_mono (hG _) c1, (AF _).isu c1 c2⟩) (fun d hd => ⟨V.rf_mono (fun q hq => (R.G_iff).2 (.inl (Pth.ok_iff.1 hq))) (hz d hd).1, (hz d hd).2.imp id (A.is (hz d hd).1)⟩), W.oth_put H.ho, by rw [put_size]; exact W.tsz, ?_, fun j2 i2 c1 c2 c3 c4 => ?_, fun j1 i1 j2 i2 c1 c2 c3 c4 c5 c6 c7 c8 c9 => ?_⟩, ⟨fun _ _ c => (by rw [hk] at c; cases c), by omega, fun j2 i2 c1 c2 c3 c4 => ⟨(hpat ⟨j2, i2, c1, c2, c3, c4, rfl⟩).1, ?_⟩, AF⟩⟩
  · by_cases c : j2 = j
    · subst c; rw [hj] at c2; cases c2; exact .inl rfl
    · right
      rcases Nat.lt_or_ge j2 s with c4 | c4
      · exact W.pre j2 i2 c4 c2 c3
      · have := h3 j2 i2 c4 (by omega) c2
        exact h2 j2 i2 c4 (by omega) c2 (by have := kindOf_le R.gl i2; omega)
  · have hne : i2 ≠ i := fun c => by
      rw [c] at c2
      have := R.uniq c2 hj; omega
    exact W.nohv j2 i2 (by omega) c2 c3 (hcs hne c4)
  · rw [put_defers, hdf]
    exact (C2.agr S.agr S.le).agr A (Nat.le_refl _)
  · have hD := hcs (hki c3) c4
    obtain ⟨x2, k1, k2, k3, k4, hlt, k5, k6⟩ := W.pend j2 i2 (by omega) c2 c3 hD
    have hP : R.pendP D (j + 1) (R.hp j2).n := ⟨j2, i2, c1, c2, c3, hD, rfl⟩
    obtain ⟨q1, q2⟩ := hpat hP
    have hnew := C3 j2 i2 (by omega) c2 c3 hD
    refine ⟨x2, k1, k2, B.rf_mono (hG _) k3, fun him => (k4 him).moveF (AF _) hκρ.2.2 q1 q2 k3 S.size fun hd => S.keep _ hlt fun r hr hrw => hnew r hr (by intro c; rw [c] at hrw; cases hrw), by rw [q1]; have := S.size; omega, by rw [q1]; exact k5, fun q hq hqd => ?_⟩
    rw [q1, A.σ q hq]
    rcases S.nd q hq hqd with ⟨q', r1, r2, r3⟩ | r
    · rw [← r3]; exact hnew q' r1 r2
    · omega
  · have hD1 := hcs (hki c5) c7
    have hD2 := hcs (hki c6) c8
    rw [(hpat ⟨j1, i1, c1, c3, c5, hD1, rfl⟩).1, (hpat ⟨j2, i2, c2, c4, c6, hD2, rfl⟩).1]
    exact W.pdis j1 i1 j2 i2 (by omega) (by omega) c3 c4 c5 c6 hD1 hD2 c9
  · have hnew := C3 j2 i2 (by omega) c2 c3 c4
    obtain ⟨_, _, _, _, _, hlt, _, _⟩ := W.pend j2 i2 (by omega) c2 c3 c4
    exact S.keep _ hlt fun r hr hrw => hnew r hr (by intro c; rw [c] at hrw; cases hrw)
theorem WI.step (W : WI R D a w s e) {j i : Nat} (hj : R.ord[j]? = some i) (hi : ¬ D i) (hpr : ∀ p ∈ predsOf R.ops i, D p) {ro : Option Nat} {n : Nat} {Q : Exit → Act → World → Prop} {K : Act → World → Prop} (hK : ∀ x w' s' e', WI R (addD D i) (a.put ((R.ops[i]?).bind (·.dst)) x) w' s' e' → KP' R D i s s' e e' w w' → K (a.put ((R.ops[i]?).bind (·.dst)) x) w') : wpOpIn (wd ro) n P R.ops Q i K a w := by
  obtain ⟨o, g, x, st, h1, H, hD, ht, hg⟩ := R.at_ hj
  have hjl : j < R.ord.length := (List.getElem?_eq_some_iff.1 hj).1
  obtain ⟨hc, hdst, hb, _⟩ := compG_op hg
  have hpl : g.op.plain = true := by have := H.plain; cases g <;> exact this
  have hno := comp_nodefer hc hpl
  have hkd := R.kd H.hg
  have hab : ∀ f, o.about P w a.eval = some f → (wd ro).fn f := fun f _ => wd_fn ro f
  have hgd : ∀ d, o.dst = some d → g.d = some (Pth.of d) := fun d hd => by rw [hdst, hd]; rfl
  have hsome : ∀ {t : T} {h : Hp} {v : V} {h' : Hp}, Does g cal t h v h' → exG g cal t h (fun _ h => some (vu, h)) = some (vu, h') := fun H => H _
  unfold wpOpIn
  have hod : (R.ops[i]?).bind (·.dst) = o.dst := by rw [H.ho]; rfl
  rw [hod] at hK
  simp only [H.ho]
  have light : ∀ (j2 : Nat) (u : V), (j2 = j ∨ (g.kind = 1 ∧ j ≤ j2 ∧ j2 ≤ R.ord.length)) → g.kind ≤ 1 → (∀ d, o.dst = some d → u = R.val j) → ∀ hX : Hp, Does g cal (R.tm j2) hX u hX →
      (∀ v, (∀ cal k, exJ g.op cal (R.tm j2) hX k = k v hX) → ∃ x, Isu e v x ∧ v.rf (R.G D s (R.hp (j + 1)).n.n) = true ∧ (execOp a.eval o).run P w = .ok (.value x) w) → (∀ k : KV, ∀ r, exJ g.op cal (R.tm j2) hX k = some r → ∃ v, ∀ cal k, exJ g.op cal (R.tm j2) hX k = k v hX) →
      if Region.wanted o (yielded R.ops a.tmps) then o.wpIn (wd ro) n P a w K Q else (∀ f, o.about P w a.eval = some f → (wd ro).fn f) ∧ K (a.put o.dst undef) w := fun j2 u hj2 hk hu hX hDX hrun hdet => by
    obtain ⟨w1, w2⟩ := W.wanted hj H hi hpr hg hj2
    rcases exG_out (hsome hDX) with ⟨hon, hex⟩ | ⟨hoff, hex⟩
    · rw [if_pos (w1 hon)]
      have hs := hsome hDX
      rw [hex] at hs
      obtain ⟨v, hv⟩ := hdet _ _ hs
      obtain ⟨x, i1, i2, i3⟩ := hrun v hv
      refine wpIn_run hno i3 (.inl rfl) (hK _ _ s e (W.light hj H hg hpr (by rw [hkd]; exact hk) fun d hd => ?_) (.refl (by rw [hkd]; omega)))
      have := (hDX.eq (v2 := v) (h2 := hX) fun k => by rw [hex, hv]).2 _ (hgd d hd)
      rw [← hu d hd, this]
      exact ⟨i2, i1⟩
    · rw [if_neg (by rw [w2 hoff]; simp)]
      refine ⟨hab, hK _ _ s e (W.light hj H hg hpr (by rw [hkd]; exact hk) fun d hd => ?_) (.refl (by rw [hkd]; omega))⟩
      have := (hDX.eq (v2 := vu) (h2 := hX) fun k => by rw [hex]).2 _ (hgd d hd)
      rw [← hu d hd, this]
      exact ⟨rfl, undef_is⟩
  have hkc : ∀ m, g.kind = m → m ≠ 3 → g.op.kind = m := fun m h1 h2 => by
    cases g with
    | g d op => exact h1
    | c d op j w =>
      have h1 : (if op.kind = 2 then 3 else op.kind) = m := h1
      show op.kind = m
      split at h1
      · omega
      · exact h1
  have hGb : ∀ q, R.G D s (R.hp j).n.n q = true → R.G D s (R.hp (j + 1)).n.n q = true := fun q => R.G_mono (fun _ h => h) (R.mono1 hj)
  rcases Nat.lt_or_ge g.kind 1 with hk0 | hk0
  · have hk0 : g.kind = 0 := by omega
    have hP : Pure Y P o g.op := by
      have := hkc 0 hk0 (by omega)
      cases comp_cls hc with
      | p H k => exact H
      | l H k => omega
      | m H k => omega
      | a H k c => omega
      | c k c => omega
    have hsame := (R.does (i := i) hg H.plain hD).1 (by omega)
    rw [hsame] at hD
    refine light j (R.val j) (.inl rfl) (by omega) (fun _ _ => rfl) (R.hp j) hD (fun v hv => ?_) (fun k r hr => ?_)
    · obtain ⟨v', p1, p2⟩ := hP cal (R.tm j) (R.hp j) (fun v h => some (v, h)) (v, R.hp j) (hv cal _)
      obtain ⟨z, q1, q2, q3⟩ := p2 e (R.G D s (R.hp (j + 1)).n.n) a (W.ot hj H hi hpr (.inl rfl) hGb)
      have := (hv cal fun v h => some (v, h)).symm.trans (p1 cal (R.hp j) _)
      cases this
      exact ⟨z, q1, q2, q3 w⟩
    · obtain ⟨v', p1, _⟩ := hP cal (R.tm j) (R.hp j) k r hr
      exact ⟨v', fun cal k => p1 cal (R.hp j) k⟩
  rcases Nat.lt_or_ge g.kind 2 with hk1 | hk1
  · have hk1 : g.kind = 1 := by omega
    have hL : Looks Y P o g.op := by
      have := hkc 1 hk1 (by omega)
      cases comp_cls hc with
      | p H k => exact H.looks
      | l H k => exact H
      | m H k => omega
      | a H k c => omega
      | c k c => omega
    have fin : ∀ (j2 : Nat) (u : V), (j2 = j ∨ (g.kind = 1 ∧ j ≤ j2 ∧ j2 ≤ R.ord.length)) → (∀ d, o.dst = some d → u = R.val j) → Does g cal (R.tm j2) (R.hp s) u (R.hp s) → (R.hp j).n.n ≤ (R.hp s).n.n → if Region.wanted o (yielded R.ops a.tmps) then o.wpIn (wd ro) n P a w K Q else (∀ f, o.about P w a.eval = some f → (wd ro).fn f) ∧ K (a.put o.dst undef) w := fun j2 u hj2 hu hDX hjs => by
      refine light j2 u hj2 (by omega) hu (R.hp s) hDX (fun v hv => ?_) (fun k r hr => ?_)
      · obtain ⟨v', p1, p2⟩ := hL cal (R.tm j2) (R.hp s) (fun v h => some (v, h)) (v, R.hp s) (hv cal _)
        obtain ⟨z, q1, q2, q3⟩ := p2 e a w (W.ot hj H hi hpr hj2 (fun q hq => by
          rw [Pth.ok_iff]
          rcases (R.G_iff).1 hq with h | ⟨h, _⟩ <;> omega)) W.cum.rel
        have := (hv cal fun v h => some (v, h)).symm.trans (p1 cal _)
        cases this
        exact ⟨z, q1, V.rf_mono (fun q hq => (R.G_iff).2 (.inl (Pth.ok_iff.1 hq))) q2, q3⟩
      · obtain ⟨v', p1, _⟩ := hL cal (R.tm j2) (R.hp s) k r hr
        exact ⟨v', fun cal k => p1 cal k⟩
    by_cases hjs : j < s
    · rcases W.hvp with h0 | ⟨i0, c1, c2⟩
      · omega
      · obtain ⟨o0, g0, x0, s0, c3, c4⟩ := R.pos (s - 1) i0 c1
        have hg0 : g0.kind = 3 := by rw [R.kd c4.hg] at c2; exact c2
        have hlt : j < s - 1 := by
          rcases Nat.lt_or_ge j (s - 1) with k | k
          · exact k
          · have : j = s - 1 := by omega
            rw [← this, hj] at c1; cases c1; omega
        have hmem : i ∈ R.ord.take (s - 1) := mem_take_iff.2 ⟨j, hlt, hj⟩
        have hD0 : D i0 := W.pre (s - 1) i0 (by omega) c1 (by omega)
        have hns : i ∉ s0 := fun c => hi (c4.anc D W.dc (W.dc i0 hD0) i c)
        have htr := R.trc (s - 1) x0 c3
        rw [c4.x, if_pos hg0, show s - 1 + 1 = s by omega] at htr
        obtain ⟨u, u1, u2⟩ := htr.2.2.2 g (chkOf_has hmem H.hg hk1 hns)
        refine fin s u (.inr ⟨hk1, by omega, W.sle⟩) (fun d hd => ?_) u1 (R.mono (by omega) W.sle)
        rw [u2 _ (hgd d hd)]
        exact R.tm_dst hj H.ho hd (by omega) W.sle
    · have hno3 : ∀ (j' i' : Nat), s ≤ j' → j' < j → R.ord[j']? = some i' → kindOf R.gl i' ≠ 3 := fun j' i' c1 c2 c3 c4 =>
        W.nohv j' i' c1 c3 c4 (H.anc D W.dc hpr i' (H.lk i' (mem_take_iff.2 ⟨j', c2, c3⟩) hk1 c4))
      have hno2 : ∀ (j' i' : Nat), s ≤ j' → j' < j → R.ord[j']? = some i' → kindOf R.gl i' ≠ 2 := fun j' i' c1 c2 c3 c4 => by
        obtain ⟨b, k, e1, e2, e3⟩ := segAl_out (R.ord.take j) (H.seg hk1) j' i' (by rw [List.getElem?_take, if_pos c2]; exact c3) c4
        rw [List.getElem?_take] at e2
        split at e2
        · rename_i hbj
          exact hno3 b k (by omega) hbj e2 e3
        · cases e2
      have hsame : ∀ m, s ≤ m → m ≤ j → R.hp m = R.hp s := by
        intro m
        induction m with
        | zero => intro c1 _; have : s = 0 := by omega
                  rw [this]
        | succ m ih =>
          intro c1 c2
          by_cases hsm : s = m + 1
          · rw [hsm]
          · have hom : R.ord[m]? = some R.ord[m] := List.getElem?_eq_getElem (by omega)
            obtain ⟨o3, g3, x3, s3, k1, k2, k3, k4, k5⟩ := R.at_ hom
            have n3 := hno3 m _ (by omega) (by omega) hom
            have n2 := hno2 m _ (by omega) (by omega) hom
            rw [R.kd k2.hg] at n3 n2
            rw [(R.does (i := R.ord[m]) k5 k2.plain k3).1 (by have := g3.kind_le; omega)]
            exact ih (by omega) (by omega)
      have hjs2 := hsame j (by omega) (Nat.le_refl _)
      rw [(R.does (i := i) hg H.plain hD).1 (by omega), hjs2] at hD
      exact fin j (R.val j) (.inl rfl) (fun _ _ => rfl) hD (by rw [hjs2]; exact Nat.le_refl _)
  rcases Nat.lt_or_ge g.kind 3 with hk2 | hk2
  · have hk2 : g.kind = 2 := by omega
    have hM : Makes Y P o g.op := by
      have := hkc 2 hk2 (by omega)
      cases comp_cls hc with
      | p H k => omega
      | l H k => omega
      | m H k => exact H
      | a H k c => omega
      | c k c => omega
    have hgg : ∃ d op, g = .g d op := by
      cases g with
      | g d op => exact ⟨_, _, rfl⟩
      | c d op j w =>
        have h1 : (if op.kind = 2 then 3 else op.kind) = 2 := hk2
        split at h1 <;> omega
    have hon : g.on (R.tm j) := by obtain ⟨d, op, rfl⟩ := hgg; trivial
    rw [if_pos ((W.wanted hj H hi hpr hg (.inl rfl)).1 hon)]
    have hex : ∀ k, exG g cal (R.tm j) (R.hp j) k = exJ g.op cal (R.tm j) (R.hp j) fun v h => k (putT g.d (R.tm j) v) h := by
      rcases exG_out (hsome hD) with ⟨_, h⟩ | ⟨hoff, _⟩
      · exact h
      · obtain ⟨d, op, rfl⟩ := hgg; exact hoff.elim
    have hs := hsome hD
    rw [hex] at hs
    obtain ⟨v, y, m1, m2, m3, m4⟩ := hM cal (R.tm j) (R.hp j) _ _ hs
    obtain ⟨q1, q2⟩ := hD.eq (v2 := v (R.hp j).n) (h2 := (R.hp j).push y) fun k => by rw [hex, m1]
    have hGn : R.G D s (R.hp j).n.n (R.hp j).n = false := by
      cases hb : R.G D s (R.hp j).n.n (R.hp j).n with
      | false => rfl
      | true =>
        have hsj : s ≤ j := by
          rcases Nat.lt_or_ge j s with c | c
          · exact absurd (W.pre j i c hj (by rw [hkd]; omega)) hi
          · exact c
        have := R.mono (j := s) (j' := j) hsj (by omega)
        rcases (R.G_iff).1 hb with h | ⟨h, _⟩ <;> omega
    obtain ⟨n1, n2⟩ := m4 e (R.G D s (R.hp j).n.n) a (W.ot hj H hi hpr (.inl rfl) fun _ h => h)
    obtain ⟨z, w', d, r1, r2, r3, r4⟩ := n2 w (R.hp j).n hGn
    obtain ⟨e', W', K'⟩ := W.make hj H hg hi hpr (by rw [hkd]; exact hk2) (z := z) q1 m2 n1 r2 (fun d2 hd2 => by
      rw [q2 _ (hgd d2 hd2)]
      exact ⟨fun f hf => m3 _ f hf, r3⟩) r4
    exact wpIn_run hno r1 (.inl rfl) (hK _ _ _ _ W' K')
  · have hk3 : g.kind = 3 := by have := g.kind_le; omega
    obtain ⟨hsj, C, hfin⟩ := W.heavy hj H hg hi hpr (by rw [hkd]; exact hk3)
    obtain ⟨w1, w2⟩ := W.wanted hj H hi hpr hg (.inl rfl)
    rcases exG_out (hsome hD) with ⟨hon, hex⟩ | ⟨hoff, hex⟩
    · rw [if_pos (w1 hon)]
      have hs := hsome hD
      rw [hex] at hs
      obtain ⟨v, h1', m1, m2⟩ := wpe_all (ro := ro) hc R.HC hpl (R.tm j) (R.hp j) _ _ hs
      obtain ⟨q1, q2⟩ := hD.eq (v2 := v) (h2 := h1') fun k => by rw [hex, m1]
      refine m2 n e a w (R.hκ.agr W.cum.agr) (W.ot hj H hi hpr (.inl rfl) fun q hq => ?_) C.rel K Q fun e1 w' z S hz hvok hdf => ?_
      · rw [Pth.ok_iff]
        have := R.mono (j := s) (j' := j) hsj (by omega)
        rcases (R.G_iff).1 hq with h | ⟨h, _⟩ <;> omega
      · rw [← q1] at S hvok hdf
        obtain ⟨e', W', K'⟩ := hfin e1 w' z S hdf fun d hd => by rw [q2 _ (hgd d hd)]; exact ⟨hvok, hz⟩
        exact hK _ _ _ _ W' K'
    · rw [if_neg (by rw [w2 hoff]; simp)]
      obtain ⟨q1, q2⟩ := hD.eq (v2 := vu) (h2 := R.hp j) fun k => by rw [hex]
      obtain ⟨e', W', K'⟩ := hfin e w undef (by rw [q1]; exact .refl C.rel) (by rw [q1]) fun d hd => by rw [q2 _ (hgd d hd)]; exact ⟨rfl, undef_is⟩
      exact ⟨hab, hK _ _ _ _ W' K'⟩
end
theorem Step.drew {e : Env} {h : Hp} {w : World} (H : Rel e h w) (n : Nat) : Step e h w e h { w with drawn := n } :=
  ⟨⟨fun r hr => (H.ok r hr).move (Agr.refl h.n.n e) hr (H.val r hr) (Nat.le_refl _) (fun _ => rfl), H.sep, H.val, H.esc⟩, rfl, rfl, Agr.refl _ _, Nat.le_refl _, rfl, rfl, rfl, Nat.le_refl _, fun _ _ _ => rfl, fun r hr hw => .inl ⟨r, hr, hw, rfl⟩, fun r hr hw => .inl ⟨r, hr, hw, rfl⟩⟩
theorem mem_preds {ops : Array Oper} {i p : Nat} {o : Oper} (ho : ops[i]? = some o) : p ∈ predsOf ops i ↔ ∃ e ∈ o.after, Region.binds .any e = true ∧ e.on = p := by
  simp only [predsOf, ho, List.mem_map, List.mem_filter]
  constructor
  · rintro ⟨e, ⟨h1, h2⟩, h3⟩; exact ⟨e, by simpa using h1, h2, h3⟩
  · rintro ⟨e, h1, h2, h3⟩; exact ⟨e, ⟨by simpa using h1, h2⟩, h3⟩
def Ds (listed : Array Bool) (i : Nat) : Prop := listed.getD i false = true
section
variable {Y : Lay} {P : Program} {ζ : (Nat → Int) × Nat} {N M : Nat} {κ : KP} {cal : Cal} {ro : Option Nat} {n : Nat}
theorem any_wp (R : Reg Y P N M κ cal) {Q : Exit → Act → World → Prop} {Γ : (Nat → Prop) → Act → World → Nat → Env → Prop}
    (hΓ : ∀ {D : Nat → Prop} {a w s e i x w' s' e'}, WI R D a w s e → Γ D a w s e → R.ins i = false → ¬ D i → (∀ p ∈ predsOf R.ops i, D p) → WI R (addD D i) (a.put ((R.ops[i]?).bind (·.dst)) x) w' s' e' → KP' R D i s s' e e' w w' → Γ (addD D i) (a.put ((R.ops[i]?).bind (·.dst)) x) w' s' e')
    (hI : ∀ {D : Nat → Prop} {a w s e i} {K : Act → World → Prop}, WI R D a w s e → Γ D a w s e → R.ins i = true → i < R.ops.size → ¬ D i → (∀ p ∈ predsOf R.ops i, D p) → (∀ a' w' s' e', WI R (addD D i) a' w' s' e' → Γ (addD D i) a' w' s' e' → K a' w') → wpOpIn (wd ro) n P R.ops Q i K a w)
    (hP : ∀ i, R.ins i = true → ∀ p ∈ predsOf R.ops i, p < R.ops.size ∧ R.ins p = false)
    (hQ : ∀ (D : Nat → Prop) a w s e, WI R D a w s e → Γ D a w s e → (∀ i, i < R.ops.size → D i) → Q .normal a w) :
    ∀ (fuel : Nat) (listed : Array Bool) (us : List Nat) (a : Act) (w : World) (s : Nat) (e : Env), listed.size = R.ops.size → us.length ≤ fuel → (∀ i, i < R.ops.size → ¬ Ds listed i → i ∈ us) → WI R (Ds listed) a w s e → Γ (Ds listed) a w s e → wpAnyIn (wd ro) n P .any R.ops Q fuel listed a w := by
  have hgetD : ∀ (listed : Array Bool) (i : Nat), i < listed.size → listed.getD i true = listed.getD i false := fun listed i hi => by simp [Array.getD, hi]
  have done : ∀ (listed : Array Bool), listed.size = R.ops.size → Region.ready .any R.ops listed = [] → ∀ i, i < R.ops.size → Ds listed i := fun listed hsz hr i hi => by
    have key : ∀ (j i : Nat), R.ord[j]? = some i → Ds listed i := by
      intro j
      induction j using Nat.strongRecOn with
      | ind j ih =>
        intro i hj
        obtain ⟨o, g, x, st, _, H⟩ := R.pos j i hj
        have hlt : i < R.ops.size := (Array.getElem?_eq_some_iff.1 H.ho).1
        cases hd : listed.getD i false with
        | true => exact hd
        | false =>
          have : i ∈ Region.ready .any R.ops listed := by
            rw [mem_ready]
            refine ⟨by rw [hgetD listed i (by omega)]; exact hd, o, H.ho, fun e he hb => ?_⟩
            rcases H.preds e.on ((mem_preds H.ho).2 ⟨e, he, hb, rfl⟩) with hp | ⟨hp, hq⟩
            · obtain ⟨j', h1, h2⟩ := mem_take_iff.1 hp
              exact ih j' h1 e.on h2
            · cases hl : listed.getD e.on false with
              | true => rfl
              | false =>
                unfold insB at hp
                cases hop : R.ops[e.on]? with
                | none => rw [hop] at hp; cases hp
                | some o2 =>
                  have hl2 := (Array.getElem?_eq_some_iff.1 hop).1
                  have : e.on ∈ Region.ready .any R.ops listed := by
                    rw [mem_ready]
                    refine ⟨by rw [hgetD listed _ (by omega)]; exact hl, o2, hop, fun e2 he2 hb2 => ?_⟩
                    obtain ⟨j', h1, h2⟩ := mem_take_iff.1 (hq e2.on ((mem_preds hop).2 ⟨e2, he2, hb2, rfl⟩))
                    exact ih j' h1 e2.on h2
                  rw [hr] at this
                  cases this
          rw [hr] at this
          cases this
    have hno : ∀ i, i < R.ops.size → R.ins i = false → Ds listed i := fun i hi hn => by
      obtain ⟨j, hj⟩ := R.all i hi hn
      exact key j i hj
    cases hn : R.ins i with
    | false => exact hno i hi hn
    | true =>
      cases hd : listed.getD i false with
      | true => exact hd
      | false =>
        have : i ∈ Region.ready .any R.ops listed := by
          rw [mem_ready]
          refine ⟨by rw [hgetD listed i (by omega)]; exact hd, _, Array.getElem?_eq_getElem hi, fun e he hb => ?_⟩
          obtain ⟨k1, k2⟩ := hP i hn e.on ((mem_preds (Array.getElem?_eq_getElem hi)).2 ⟨e, he, hb, rfl⟩)
          exact hno _ k1 k2
        rw [hr] at this
        cases this
  intro fuel
  induction fuel with
  | zero =>
    intro listed us a w s e hsz hus hall W Wg
    have hu : us = [] := by cases us with
      | nil => rfl
      | cons _ _ => simp at hus
    have hD : ∀ i, i < R.ops.size → Ds listed i := fun i hi => by
      by_cases c : Ds listed i
      · exact c
      · have := hall i hi c; rw [hu] at this; cases this
    refine ⟨?_, hQ _ a w s e W Wg hD⟩
    cases hr : Region.ready .any R.ops listed with
    | nil => rfl
    | cons i l =>
      have hi : i ∈ Region.ready .any R.ops listed := by rw [hr]; exact List.mem_cons_self
      obtain ⟨h1, o, h2, _⟩ := mem_ready.1 hi
      have hlt : i < R.ops.size := (Array.getElem?_eq_some_iff.1 h2).1
      have := hD i hlt
      unfold Ds at this
      rw [hgetD listed i (by omega)] at h1
      rw [h1] at this; cases this
  | succ fuel ih =>
    intro listed us a w s e hsz hus hall W Wg
    refine ⟨fun hr => hQ _ a w s e W Wg (done listed hsz hr), fun i hi => ?_⟩
    obtain ⟨h1, o, h2, h3⟩ := mem_ready.1 hi
    have hlt : i < R.ops.size := (Array.getElem?_eq_some_iff.1 h2).1
    rw [hgetD listed i (by omega)] at h1
    have hnd : ¬ Ds listed i := fun c => by unfold Ds at c; rw [h1] at c; cases c
    have hpr : ∀ p ∈ predsOf R.ops i, Ds listed p := fun p hp => by
      obtain ⟨e, he, hb, rfl⟩ := (mem_preds h2).1 hp
      exact h3 e he hb
    have go : ∀ a' w' s' e', WI R (addD (Ds listed) i) a' w' s' e' → Γ (addD (Ds listed) i) a' w' s' e' → wpAnyIn (wd ro) n P .any R.ops Q fuel (listed.setIfInBounds i true) a' w' := fun a' w' s' e' W' Wg' => by
      have hDs : Ds (listed.setIfInBounds i true) = addD (Ds listed) i := by
        funext k
        apply propext
        unfold Ds addD
        by_cases hk : k = i
        · subst hk
          simp [Array.getD, hsz, hlt]
        · have : (listed.setIfInBounds i true).getD k false = listed.getD k false := by
            simp [Array.getD_eq_getD_getElem?, Array.getElem?_setIfInBounds, Ne.symm hk]
          rw [this]
          simp [hk]
      refine ih (listed.setIfInBounds i true) (us.erase i) a' w' s' e' (by simpa using hsz) ?_ (fun k hk hkd => ?_) (by rw [hDs]; exact W') (by rw [hDs]; exact Wg')
      · have := List.length_erase_of_mem (hall i hlt hnd)
        omega
      · rw [hDs] at hkd
        have hne : k ≠ i := fun c => hkd (.inl c)
        exact (List.mem_erase_of_ne hne).2 (hall k hk fun c => hkd (.inr c))
    cases hn : R.ins i with
    | false =>
      obtain ⟨j, hj⟩ := R.all i hlt hn
      exact W.step hj hnd hpr fun x w' s' e' W' K' => go _ w' s' e' W' (hΓ W Wg hn hnd hpr W' K')
    | true => exact hI W Wg hn hlt hnd hpr go
theorem WI.fin (R : Reg Y P N M κ cal) {D : Nat → Prop} {a : Act} {w : World} {s : Nat} {e : Env} (W : WI R D a w s e) (hD : ∀ i, i < R.ops.size → D i) (him : ∀ j : Nat, R.ord[j]? ≠ some R.im) : Step R.e0 (R.hp 0) R.w0 e (R.hp R.ord.length) w ∧ TS P M e (R.hp R.ord.length) (R.tm R.ord.length) a := by
  have hall : ∀ (j i : Nat), R.ord[j]? = some i → D i := fun j i h => by
    obtain ⟨o, g, x, st, _, H⟩ := R.pos j i h
    exact hD i (Array.getElem?_eq_some_iff.1 H.ho).1
  obtain ⟨C1, C2, _⟩ := W.catch W.sle (Nat.le_refl _) (fun j' i c1 c2 c3 c4 => W.nohv j' i c1 c3 c4 (hall j' i c3)) (fun j' i _ _ c3 _ => hall j' i c3) (fun j' i _ _ c3 c4 => him j' (by rw [← c4]; exact c3))
  refine ⟨C1, W.tsz, fun p => ?_, ?_, C2⟩
  · by_cases hex : ∃ (k : Nat) (o : Oper), R.ops[k]? = some o ∧ o.dst = some p.n
    · obtain ⟨k, o, k1, k2⟩ := hex
      obtain ⟨j, hj⟩ := R.all k (Array.getElem?_eq_some_iff.1 k1).1 (R.noins k1 k2)
      have := (W.vals j k o p.n hj (hall j k hj) k1 k2).2
      have h2 := R.tm_dst hj k1 k2 (j := R.ord.length) (List.getElem?_eq_some_iff.1 hj).1 (Nat.le_refl _)
      rw [Pth.of_of] at h2
      rw [h2]; exact this
    · rw [R.tm_oth (Nat.le_refl _) fun j' i o _ _ h3 h4 => hex ⟨i, o, h3, h4⟩, W.oth p.n fun i o h1 _ h3 => hex ⟨i, o, h1, h3⟩]
      exact (R.ts.tr p).imp id (C1.agr.is (Tr.rf_gt R.ts.rf))
  · have key : ∀ j, j ≤ R.ord.length → (R.tm j).rf (Pth.ok (R.hp R.ord.length).n.n) = true := by
      intro j
      induction j with
      | zero => intro _; exact Tr.ok_mono (R.mono (Nat.zero_le _) (Nat.le_refl _)) R.ts.rf
      | succ m ih =>
        intro hm
        have hom : R.ord[m]? = some R.ord[m] := List.getElem?_eq_getElem (by omega)
        obtain ⟨o, g, x, st, k1, k2, k3, k4, k5⟩ := R.at_ hom
        obtain ⟨_, hd, _, _⟩ := compG_op k5
        rw [k4, hd]
        cases hdst : o.dst with
        | none => exact ih (by omega)
        | some d =>
          refine Tr.rf_st (ih (by omega)) (V.rf_mono (fun q hq => ?_) (W.vals m _ o d hom (hall m _ hom) k2.ho hdst).1)
          rw [Pth.ok_iff]
          rcases (R.G_iff).1 hq with h | ⟨h, _⟩
          · have := R.mono W.sle (Nat.le_refl _); omega
          · have := R.mono (j := m + 1) (j' := R.ord.length) hm (Nat.le_refl _); omega
    exact key _ (Nat.le_refl _)
theorem drw_snd0 (hm : P.follows .mixedOrders = true) (HC : CalOk Y P κ cal) (hNM : N ≤ M) :
  ∀ id ops gl d, compGs Y P N ops ops.toList = some gl → compDr0 ops gl = some d → (ro = none ∨ d.smp = true) → ∀ (t : T) (h : Hp) (kn kr : KT) (kx : Nat → KT) (r : RES), exD d cal t h kn kr kx = some r →
    ∀ (e : Env) (a : Act) (w : World), EK e κ → Rel e h w → Gl Y e (Pth.ok h.n.n) → TS P M e h t a → (Code.region id ops true).wpIn (wd ro) n P (QE P M kn kr kx r e h w) a w := by
  intro id ops gl d hgl hd hs t h kn kr kx r hr e a w hκ hR hG hS
  unfold compDr0 at hd
  simp only at hd
  generalize takeX ops gl ops.size (Array.replicate ops.size false) = ord at hd
  split at hd
  rotate_left
  · cases hd
  rename_i hall
  obtain ⟨xs, hx, rfl⟩ := Option.map_eq_some_iff.1 hd
  obtain ⟨hlen, hpos⟩ := mkX_pos ord [] xs (fun k D _ _ x hx => by cases hx) hx
  obtain ⟨g1, g2⟩ := compGs_get hgl
  have hgg : ∀ (i : Nat) (o : Oper) (g : GJ), ops[i]? = some o → gl[i]? = some g → compG Y P N ops o = some g := fun i o g ho hg => g2 i o g (by simpa using ho) hg
  have hpos2 : ∀ (j i : Nat), ord[j]? = some i → ∃ o g x s, xs[j]? = some x ∧ PosOk ops gl (ord.take j) i o g x s := fun j i hj => by simpa using hpos j i hj
  have hxg : ∀ {x : XJ} {g : GJ} {s done : List Nat}, x = (if g.kind = 3 then .hv g (chkOf gl s done) else .lt g) → x.g = g ∧ ∀ c ∈ x.chk, c ∈ chkOf gl s done := fun {x g s done} h => by
    rw [h]
    split
    · exact ⟨rfl, fun c hc => hc⟩
    · exact ⟨rfl, fun c hc => by cases hc⟩
  have nice : ∀ x ∈ xs, (∀ (t : T) (h : Hp) (k : KT) (r : RES), exG x.g cal t h k = some r → ∃ v h', Does x.g cal t h v h') ∧ ∀ c ∈ x.chk, ∀ (t : T) (h : Hp) (f : V → Ans) (r : RES), lk1 c t h f = some r → ∃ u, Does c cal t h u h ∧ f u = some r := fun x hx => by
    obtain ⟨j, hj⟩ := List.mem_iff_getElem?.1 hx
    have hjl : j < ord.length := by rw [← hlen]; exact (List.getElem?_eq_some_iff.1 hj).1
    obtain ⟨o, g, x', s, h1, H⟩ := hpos2 j ord[j] (List.getElem?_eq_getElem hjl)
    rw [hj] at h1; cases h1
    obtain ⟨e1, e2⟩ := hxg H.x
    refine ⟨fun t h k r hr => ?_, fun c hc t h f r hr => ?_⟩
    · rw [e1] at hr ⊢
      obtain ⟨v, h', i1, _⟩ := does_all HC (hgg _ o g H.ho H.hg) H.plain hr
      exact ⟨v, h', i1⟩
    · obtain ⟨k, k1, k2, k3⟩ := chkOf_mem (e2 c hc)
      obtain ⟨j', q1, q2⟩ := mem_take_iff.1 k1
      obtain ⟨o', g', x', s', _, H'⟩ := hpos2 j' k q2
      have := H'.hg
      rw [k2] at this; cases this
      exact lk1_out (hgg k o' c H'.ho k2) k3 hr
  obtain ⟨val, hp, tm, q1, q2, q3, q4⟩ := exXs_trace xs nice t h kn r hr
  have S0 := Step.drew hR (w.drawn + 1)
  have hims : ∀ j : Nat, ord[j]? ≠ some ops.size := fun j h => by
    obtain ⟨o, g, x, s, _, H⟩ := hpos2 j _ h
    have := (Array.getElem?_eq_some_iff.1 H.ho).1
    omega
  let R : Reg Y P N M κ cal := {
    ops := ops, gl := gl, ord := ord, xs := xs, val := val, hp := hp, tm := tm, e0 := e, a0 := a, w0 := { w with drawn := w.drawn + 1 }
    HC := HC, hNM := hNM, hgl := hgg, pos := hpos2
    ins := fun _ => false, im := ops.size
    insd := fun _ _ _ h => by cases h
    insn := fun _ _ _ => rfl
    imz := fun j j' i' h => absurd h (hims j)
    all := fun i hi _ => by
      have := List.all_eq_true.1 hall i (List.mem_range.2 hi)
      have hm : i ∈ ord := by simpa using this
      exact List.mem_iff_getElem?.1 hm
    len := hlen, trc := q4, hκ := hκ, rel := by rw [q2]; exact S0.rel, gly := by rw [q2]; exact hG, ts := by rw [q1, q2]; exact hS }
  refine wpIn_region_any hm (any_wp R (Γ := fun _ _ _ _ _ => True) (fun _ _ _ _ _ _ _ => trivial) (fun _ _ h => by cases h) (fun _ h => by cases h) (fun D a' w' s e' W _ hD => ?_) ops.size _ (List.range ops.size) a _ 0 e (by simp; rfl) (by simp) (fun i hi _ => List.mem_range.2 hi) ?_ trivial)
  · obtain ⟨F1, F2⟩ := WI.fin R W hD hims
    have F1 : Step e (hp 0) { w with drawn := w.drawn + 1 } e' (hp ord.length) w' := F1
    have F2 : TS P M e' (hp ord.length) (tm ord.length) a' := F2
    rw [q2] at F1
    rw [hlen] at q3
    exact QE.of (kn := kn) (kr := kr) (kx := kx) (ex := .normal) rfl (S0.trans F1) F2 q3 (.refl _ _)
  · have hD0 : ∀ i, ¬ Ds (Array.replicate ops.size false) i := fun i h => by
      unfold Ds at h
      simp [Array.getD] at h
    have hrel : Rel e (hp 0) { w with drawn := w.drawn + 1 } := by rw [q2]; exact S0.rel
    exact ⟨fun i hi => absurd hi (hD0 i), Nat.zero_le _, fun j i hj => by omega, fun j i _ _ _ => hD0 i, .inl rfl, .refl hrel, fun j i o d _ hi => absurd hi (hD0 i), fun p _ => rfl, hS.size, by show DfR P e (hp 0).n.n (hp 0).df a.defers; rw [q2]; exact hS.df, fun j i _ _ _ hi => absurd hi (hD0 i), fun j i j' i' _ _ _ _ _ _ hi => absurd hi (hD0 i)⟩
end
theorem mpS_some {s : S} {c : Pth → Ans} {r : RES} (h : mpS s c = some r) : ∃ q, s = .mp q ∧ c q = some r := by
  cases s <;> first | exact ⟨_, rfl, h⟩ | cases h
theorem upOf_some {g : GJ} {q : List Bool × O × O × O} (h : upOf g = some q) : g = .g none (.up q.1 q.2.1 q.2.2.1 q.2.2.2) := by
  unfold upOf at h
  split at h
  · cases h; rfl
  · cases h
structure EntOk (t : T) (r : Pth) (g : GJ) (x : EV) : Prop where
  up : ∃ m k v, g = .g none (.up x.1 m k v) ∧ ev t m = .s (.mp r) ∧ x.2.1 = ev t k ∧ x.2.2 = ev t v
  key : keyB x.1 x.2.1 = true
  rk1 : x.2.1.rk (pL r) = true
  rk2 : x.2.2.rk (pL r) = true
  pl : x.2.2.pl = true
theorem mlE_some {t : T} {r : Pth} {g : GJ} {c : EV → Ans} {z : RES} (h : mlE t r g c = some z) : ∃ x, EntOk t r g x ∧ c x = some z := by
  obtain ⟨⟨ks, m, k, v⟩, h1, h2⟩ := onO_some h
  obtain ⟨s, h3, h4⟩ := asS_some (show asS (ev t m) _ = some z from h2)
  obtain ⟨q, h5, h6⟩ := mpS_some h4
  obtain ⟨h7, h8⟩ := onB_t h6
  obtain ⟨h9, h10⟩ := onB_t h8
  obtain ⟨h11, h12⟩ := onB_t h10
  obtain ⟨h13, h14⟩ := and_t h11
  obtain ⟨k1, _, k3, _⟩ := asC_out h12
  have hq := Pth.inj (nat_eq h7)
  subst hq h5
  exact ⟨(ks, ev t k, ev t v), ⟨⟨m, k, v, upOf_some h1, h3, rfl, rfl⟩, h9, h13, h14, k1⟩, k3⟩
noncomputable def entOf (t : T) (g : GJ) : EV := match upOf g with
  | some (ks, _, k, v) => (ks, ev t k, ev t v)
  | none => ([], vu, vu)
theorem EntOk.eq {t : T} {r : Pth} {g : GJ} {x : EV} (h : EntOk t r g x) : x = entOf t g := by
  obtain ⟨m, k, v, rfl, _, h2, h3⟩ := h.up
  obtain ⟨ks, a, b⟩ := x
  simp only at h2 h3
  subst h2 h3
  rfl
theorem mlL_some {t : T} {r : Pth} : ∀ {l : List GJ} {c : List EV → Ans} {z : RES}, mlL t r l c = some z → (∀ g ∈ l, EntOk t r g (entOf t g)) ∧ c (l.map (entOf t)) = some z
  | [], c, z, h => ⟨fun g hg => (by cases hg), h⟩
  | g :: l, c, z, h => by
    obtain ⟨x, h1, h2⟩ := mlE_some (show mlE t r g (fun x => mlL t r l fun xs => c (x :: xs)) = some z from h)
    obtain ⟨h3, h4⟩ := mlL_some h2
    have hx := h1.eq
    subst hx
    refine ⟨fun g' hg => ?_, h4⟩
    rcases List.mem_cons.1 hg with rfl | hg
    · exact h1
    · exact h3 g' hg
theorem neK_out {x y : EV} (h : neK x y = true) : eqK x.1 x.2.1 y.2.1 = some false := by
  have h : (Option.rec false (fun b => Bool.not b) (eqK x.1 x.2.1 y.2.1) : Bool) = true := h
  cases hq : eqK x.1 x.2.1 y.2.1 with
  | none => rw [hq] at h; cases h
  | some b => rw [hq] at h; cases b with
    | true => cases h
    | false => rfl
theorem dstB_out : ∀ {l : List EV}, dstB l = true → l.Pairwise fun x y => eqK x.1 x.2.1 y.2.1 = some false ∧ eqK y.1 y.2.1 x.2.1 = some false
  | [], _ => .nil
  | x :: l, h => by
    obtain ⟨h1, h2⟩ := and_t (show and (allF (fun y => and (neK x y) (neK y x)) l) (dstB l) = true from h)
    rw [allF_eq, List.all_eq_true] at h1
    refine .cons (fun y hy => ?_) (dstB_out h2)
    obtain ⟨h3, h4⟩ := and_t (h1 y hy)
    exact ⟨neK_out h3, neK_out h4⟩
theorem entL_eq : ∀ l : List EV, entL l = l.map (·.2)
  | [] => rfl
  | x :: l => by show x.2 :: entL l = _; rw [entL_eq l]; rfl
section
variable {Y : Lay} {P : Program} {o : Oper}
theorem scan_none {ks : List Bool} {kv : V} : ∀ {es : List ME} (i : Nat), (∀ x ∈ es, eqK ks kv x.1 = some false) → scan ks kv es i = some none
  | [], _, _ => rfl
  | (a, v, b) :: es, i, h => by
    rw [scan, h _ List.mem_cons_self]
    exact scan_none (i + 1) fun x hx => h x (List.mem_cons_of_mem _ hx)
theorem apM_eq : ∀ a b : List ME, apM a b = a ++ b
  | [], _ => rfl
  | x :: a, b => by show x :: apM a b = _; rw [apM_eq a b]; rfl
noncomputable def hF (r : Pth) (n : Pth) (es : List ME) (ck : Nat) : Hp := ⟨st .dd r (.mp es ck) (Tr.e .dd), n, 0, n.n, 0, [], false⟩
theorem hF_at (r n : Pth) (es : List ME) (ck : Nat) (q : Pth) : (hF r n es ck).at q = if q = r then .mp es ck else .dd := by
  show gt B.dd q (st B.dd r (B.mp es ck) (Tr.e B.dd)) = _
  rw [gt_st, gt_e]
theorem up_hF {t : T} {r n : Pth} {ks : List Bool} {m k v : O} {x : EV} {es : List ME} {ck : Nat} (E : EntOk t r (.g none (.up ks m k v)) x) (hn : ∀ y ∈ es, eqK x.1 x.2.1 y.1 = some false) :
    ∃ h1, (∀ cal K, exJ (.up ks m k v) cal t (hF r n es ck) K = K vu h1) ∧ h1.at r = .mp (es ++ [(x.2.1, x.2.2, ck)]) (ck + 1) := by
  obtain ⟨m', k', v', e1, e2, e3, e4⟩ := E.up
  cases e1
  have hkb := E.key
  obtain ⟨x1, xk, xv⟩ := x
  simp only at e3 e4 hkb hn
  subst e3 e4
  have hcs : ∀ c : List S → Ans, asC (ev t v) c = c (ev t v).cs := fun c => by
    have h1 := E.pl
    have h2 := E.rk2
    simp only at h1 h2
    cases hv : ev t v with
    | s s =>
      rw [hv] at h2
      have : nU s = true := by
        have := V.nU_rk h2
        exact this
      show onB (nU s) (c [s]) none = _
      rw [this]; rfl
    | agg l => rfl
    | tup l => rw [hv] at h1; cases h1
    | u => rw [hv] at h1; cases h1
  have hg : (hF r n es ck).gb r = .mp es ck := by rw [Hp.gb_eq, hF_at, if_pos rfl]
  have hw : ∃ h', (∀ c : Hp → Ans, widK (hF r n es ck) r (ev t v).cs c = c h') := by
    unfold widK
    cases allF nrf (ev t v).cs with
    | true => exact ⟨_, fun c => rfl⟩
    | false => cases allF (S.rf fun q => Nat.ble q.n r.n) (ev t v).cs with
      | true => exact ⟨_, fun c => rfl⟩
      | false => exact ⟨(hF r n es ck).wide r, fun c => by
          show (hF r n es ck).wideK r c = _
          exact Hp.wideK_eq _ _ _⟩
  obtain ⟨h', hw⟩ := hw
  refine ⟨h'.set r (.mp (es ++ [(ev t k, ev t v, ck)]) (ck + 1)), fun cal K => ?_, by rw [Hp.at_set, if_pos rfl]⟩
  show onB (keyB x1 (ev t k)) _ none = _
  rw [hkb, e_t, e2]
  show mpK ((hF r n es ck).gb r) _ = _
  rw [hg, e_mpK, hcs, hw, updM_scan _ _ _ es 0, scan_none 0 hn]
  show fN (Nat.succ ck) _ = _
  rw [fN_eq, Hp.setK_eq, apM_eq]
theorem ins_run {t : T} {r n : Pth} {ks : List Bool} {m k v : O} {x : EV} {es : List ME} {ck : Nat} (hc : compI Y P o = some (.up ks m k v)) (E : EntOk t r (.g none (.up ks m k v)) x) (hn : ∀ y ∈ es, eqK x.1 x.2.1 y.1 = some false) {e : Env} {a : Act} {w : World}
    (hT : OT Y e t (Pth.ok n.n) a (· ∈ o.op.operands)) (hr : r.n < n.n) (hes : ∀ y ∈ es, y.1.rk (pL r) = true ∧ y.2.1.rk (pL r) = true) (hw : w.heap[(e.σ r).1]? = some (.map (es.map (entT e)).toArray ck)) :
    ∃ nx z w', (execOp a.eval o).run P w = .ok nx w' ∧ ((nx = .value z) ∨ (nx = .skip ∧ z = undef)) ∧ w'.heap[(e.σ r).1]? = some (.map ((es ++ [(x.2.1, x.2.2, ck)]).map (entT e)).toArray (ck + 1)) ∧
      (∀ b, b < w.heap.size → b ≠ (e.σ r).1 → w'.heap[b]? = w.heap[b]?) ∧ w.heap.size ≤ w'.heap.size ∧ w'.os = w.os ∧ w'.tape = w.tape ∧ w'.output = w.output := by
  obtain ⟨h1, i1, i2⟩ := up_hF (n := n) (ck := ck) E hn
  have A := (comp_cls hc).acts (by rfl)
  obtain ⟨v0, h1', j1, _, j2⟩ := A noCal t (hF r n es ck) (fun v h => some (v, h)) (vu, h1) (i1 _ _)
  have hv := (j1 noCal fun v h => some (v, h)).symm.trans (i1 noCal fun v h => some (v, h))
  cases hv
  have hpl : ∀ {q : Pth}, pL r q = true → Pth.ok n.n q = true := fun {q} hq => by
    have := nat_lt hq
    exact Pth.ok_iff.2 (by omega)
  have hR : Rel e (hF r n es ck) w := by
    refine ⟨fun q hq => ?_, fun q q' hq hq' hne hqw hqd => ?_, fun q hq => ?_, fun q hq => ?_⟩
    · rw [hF_at]
      split
      · rename_i c; rw [c]; exact hw
      · trivial
    · rw [hF_at] at hqw hqd
      split at hqw
      · rename_i c
        rw [if_neg (by rw [← c]; exact Ne.symm hne)] at hqd
        exact absurd rfl hqd
      · cases hqw
    · rw [hF_at]
      split
      · show es.all _ = true
        rw [List.all_eq_true]
        intro y hy
        simp only [Bool.and_eq_true]
        exact ⟨V.rk_mono (fun p hp => hpl hp) (hes y hy).1, V.rk_mono (fun p hp => hpl hp) (hes y hy).2⟩
      · rfl
    · rw [hF_at]
      split
      · rename_i c
        show es.all _ = true
        rw [List.all_eq_true]
        intro y hy
        have hx : ∀ p, pL r p = true → esc q.n (hF r n es ck).er (hF r n es ck).eq p = true := fun p hp => by
          have := nat_lt hp
          rw [c]
          simp only [esc, Bool.or_eq_true, Nat.ble_eq]
          exact .inl (by omega)
        simp only [Bool.and_eq_true]
        exact ⟨V.rk_mono hx (hes y hy).1, V.rk_mono hx (hes y hy).2⟩
      · rfl
  obtain ⟨nx, z, w', e', k1, k2, S, _, _⟩ := j2 e a w hT hR
  refine ⟨nx, z, w', k1, k2, ?_, fun b hb hne => S.keep b hb fun q hq hqw => ?_, S.size, S.os, S.tape, S.output⟩
  · have hn1 : r.n < h1.n.n := Nat.lt_of_lt_of_le hr S.le
    have h2 := S.rel.ok r hn1
    rw [i2] at h2
    have h2 : w'.heap[(e'.σ r).1]? = some (.map ((es ++ [(x.2.1, x.2.2, ck)]).map (entT e')).toArray (ck + 1)) := h2
    rw [S.agr.σ r hr] at h2
    rw [h2]
    congr 3
    refine List.map_congr_left fun y hy => ?_
    have : y.1.rk (pL r) = true ∧ y.2.1.rk (pL r) = true := by
      rcases List.mem_append.1 hy with hy | hy
      · exact hes y hy
      · rw [List.mem_singleton.1 hy]; exact ⟨E.rk1, E.rk2⟩
    have hm : ∀ {u : V}, u.rk (pL r) = true → u.tr e' = u.tr e := fun {u} hu => S.agr.v (V.rk_rf (V.rk_mono (fun p hp => hpl hp) hu))
    simp only [entT, hm this.1, hm this.2]
  · rw [hF_at] at hqw
    split at hqw
    · rename_i c; rw [c]; exact Ne.symm hne
    · cases hqw
end
end Go.E
