/- A part of the proof of the claim that the last text of this folder states. -/
import Derived.Maps.RangeRun
import Derived.RangeFuncRecord
import Derived.Test.YtebgbhgehnpahaaGreatDoorP06
namespace Go.E
open Go.ChangeMaps (setBlock)
set_option linter.all false
theorem natsB_eq : ∀ {a b : List Nat}, natsB a b = true → a = b
  | [], [], _ => rfl
  | [], _ :: _, h => by cases h
  | _ :: _, [], h => by cases h
  | x :: a, y :: b, h => by
    obtain ⟨h1, h2⟩ := and_t (show and (Nat.beq x y) (natsB a b) = true from h)
    rw [nat_eq h1, natsB_eq h2]
theorem capN_inj : ∀ {a b : List (Pth × Nat)}, capN a = capN b → a = b
  | [], [], _ => rfl
  | [], (r, o) :: _, h => by cases h
  | (r, o) :: _, [], h => by cases h
  | (r, o) :: a, (r', o') :: b, h => by
    have h : r.n :: o :: capN a = r'.n :: o' :: capN b := h
    simp only [List.cons.injEq] at h
    rw [Pth.inj h.1, h.2.1, capN_inj h.2.2]
theorem kdN_inj {a b : IntKind} (h : kdN a = kdN b) : a = b := by cases a <;> cases b <;> first | rfl | (cases h; done)
theorem sEq0_eq {a b : S} (h : sEq0 a b = true) : a = b := by
  obtain ⟨h1, h2⟩ := and_t h
  have hk := natsB_eq h2
  cases a <;> cases b <;> simp only [sKey, List.cons.injEq, reduceCtorEq, and_false, false_and, Nat.reduceEqDiff] at hk <;> try rfl
  · rename_i x y
    cases x <;> cases y <;> first | rfl | (simp at hk; done)
  · rename_i k n k' n'
    obtain ⟨_, hk, hn⟩ := hk
    rw [kdN_inj hk]
    cases n <;> cases n' <;> simp only [inN, List.cons.injEq, Nat.reduceEqDiff, false_and] at hn
    · rw [hn.2.1]
    · rw [hn.2.1]
  · rw [Pth.inj hk.2.1, hk.2.2.1]
  · rw [Pth.inj hk.2.1, hk.2.2.1, hk.2.2.2.1, hk.2.2.2.2.1]
  · cases h1
  · rw [Pth.inj hk.2.1, capN_inj hk.2.2]
  · rename_i q _ _ _ q' _ _
    have : q = q' := by
      have := hk.2.2.1
      cases q <;> cases q' <;> first | rfl | (simp at this; done)
    rw [Pth.inj hk.2.1, this, Pth.inj hk.2.2.2.1, hk.2.2.2.2.1]
  · rw [hk.2]
  · rw [Pth.inj hk.2.1]
  · rw [Pth.inj hk.2.1]
  · rw [Pth.inj hk.2.1, hk.2.2.1]
theorem sEq_eq {a b : S} (h : sEq a b = true) : a = b := by
  cases a <;> first | exact sEq0_eq h | skip
  rename_i k n
  cases b <;> first | (cases h; done) | skip
  rename_i k' n'
  have h : (Bool.rec false (kEq k k') (eqF n n') : Bool) = true := h
  cases c : eqF n n' with
  | false => rw [c] at h; cases h
  | true =>
    rw [c] at h
    rw [eqF_eq] at c
    rw [kEq_t h, of_decide_eq_true c]
theorem ssEq_eq : ∀ {a b : List S}, ssEq a b = true → a = b
  | [], [], _ => rfl
  | [], _ :: _, h => by cases h
  | _ :: _, [], h => by cases h
  | x :: a, y :: b, h => by
    obtain ⟨h1, h2⟩ := and_t (show and (sEq x y) (ssEq a b) = true from h)
    rw [sEq_eq h1, ssEq_eq h2]
theorem cEq_eq {a b : C} (h : cEq a b = true) : a = b := by
  cases a <;> cases b <;> first | (cases h; done) | skip
  · exact congrArg _ (sEq_eq h)
  · exact congrArg _ (ssEq_eq h)
theorem csEq_eq : ∀ {a b : List C}, csEq a b = true → a = b
  | [], [], _ => rfl
  | [], _ :: _, h => by cases h
  | _ :: _, [], h => by cases h
  | x :: a, y :: b, h => by
    obtain ⟨h1, h2⟩ := and_t (show and (cEq x y) (csEq a b) = true from h)
    rw [cEq_eq h1, csEq_eq h2]
theorem vEq_eq {a b : V} (h : vEq a b = true) : a = b := by
  cases a <;> cases b <;> first | (cases h; done) | skip
  · exact congrArg _ (sEq_eq h)
  · exact congrArg _ (ssEq_eq h)
  · exact congrArg _ (csEq_eq h)
theorem wtoEq_eq : ∀ {a b : List (Nat × Int)}, wtoEq a b = true → a = b
  | [], [], _ => rfl
  | [], _ :: _, h => by cases h
  | _ :: _, [], h => by cases h
  | (i, x) :: a, (j, y) :: b, h => by
    obtain ⟨h1, h2⟩ := and_t (show and (and (Nat.beq i j) (eqF x y)) (wtoEq a b) = true from h)
    obtain ⟨h1, h3⟩ := and_t h1
    rw [eqF_eq] at h3
    rw [nat_eq h1, of_decide_eq_true h3, wtoEq_eq h2]
theorem wtEq_eq {a b : Wt} (h : wtEq a b = true) : a = b := by
  obtain ⟨m, o⟩ := a
  obtain ⟨m', o'⟩ := b
  obtain ⟨h1, h2⟩ := and_t (show and (Nat.beq m m') (wtoEq o o') = true from h)
  rw [nat_eq h1, wtoEq_eq h2]
theorem mesEq_eq : ∀ {a b : List ME}, mesEq a b = true → a = b
  | [], [], _ => rfl
  | [], _ :: _, h => by cases h
  | _ :: _, [], h => by cases h
  | (k, v, n) :: a, (k', v', n') :: b, h => by
    obtain ⟨h1, h2⟩ := and_t (show and (and (vEq k k') (and (vEq v v') (Nat.beq n n'))) (mesEq a b) = true from h)
    obtain ⟨h1, h3⟩ := and_t h1
    obtain ⟨h3, h4⟩ := and_t h3
    rw [vEq_eq h1, vEq_eq h3, nat_eq h4, mesEq_eq h2]
theorem oEq_eq {a b : Option Pth} (h : oEq a b = true) : a = b := by
  cases a <;> cases b <;> first | rfl | (cases h; done) | skip
  rw [Pth.inj (nat_eq h)]
theorem mlsEq_eq : ∀ {a b : List (V × V)}, mlsEq a b = true → a = b
  | [], [], _ => rfl
  | [], _ :: _, h => by cases h
  | _ :: _, [], h => by cases h
  | (k, v) :: a, (k', v') :: b, h => by
    obtain ⟨h1, h2⟩ := and_t (show and (and (vEq k k') (vEq v v')) (mlsEq a b) = true from h)
    obtain ⟨h1, h3⟩ := and_t h1
    rw [vEq_eq h1, vEq_eq h3, mlsEq_eq h2]
theorem bEq_eq {a b : B} (h : bEq a b = true) : a = b := by
  cases a <;> cases b <;> first | rfl | (cases h; done) | skip
  · exact congrArg _ (ssEq_eq h)
  · exact congrArg _ (ssEq_eq h)
  · obtain ⟨h1, h2⟩ := and_t h
    obtain ⟨h2, h3⟩ := and_t h2
    rw [ssEq_eq h1, nat_eq h2, nat_eq h3]
  · obtain ⟨h1, h2⟩ := and_t h
    obtain ⟨h2, h3⟩ := and_t h2
    obtain ⟨h3, h4⟩ := and_t h3
    rw [kEq_t h1, nat_eq h2, nat_eq h3, wtEq_eq h4]
  · obtain ⟨h1, h2⟩ := and_t h
    rw [mesEq_eq h1, nat_eq h2]
  · exact congrArg _ (mlsEq_eq h)
  · obtain ⟨h1, h2⟩ := and_t h
    obtain ⟨h2, h3⟩ := and_t h2
    obtain ⟨h3, h4⟩ := and_t h3
    rw [oEq_eq h1, nat_eq h2, natsB_eq h3, nat_eq h4]
  · exact congrArg _ (sEq_eq h)
  · exact congrArg _ (nat_eq h)
theorem n8q_eq {α : Type} {f : Nat → α → α → Bool} {w i : Nat} {a b : N8 α} (h : n8q f w i a b = true) (j : D8) : f (i + j.v * w) (a.g j) (b.g j) = true := by
  obtain ⟨a0, a1, a2, a3, a4, a5, a6, a7⟩ := a
  obtain ⟨b0, b1, b2, b3, b4, b5, b6, b7⟩ := b
  obtain ⟨h0, h⟩ := and_t h
  obtain ⟨h1, h⟩ := and_t h
  obtain ⟨h2, h⟩ := and_t h
  obtain ⟨h3, h⟩ := and_t h
  obtain ⟨h4, h⟩ := and_t h
  obtain ⟨h5, h⟩ := and_t h
  obtain ⟨h6, h7⟩ := and_t h
  cases j with
  | a => show f (i + 0 * w) a0 b0 = true; rw [Nat.zero_mul]; exact h0
  | b => show f (i + 1 * w) a1 b1 = true; rw [Nat.one_mul]; exact h1
  | c => exact h2
  | d => exact h3
  | e => exact h4
  | f => exact h5
  | g => exact h6
  | h => exact h7
theorem pastB_t {m i : Nat} {r : Bool} (h : pastB m i r = true) (hi : i < m) : r = true := by
  have h : (Bool.rec r true (Nat.ble m i) : Bool) = true := h
  cases hb : Nat.ble m i with
  | true => have := nat_le hb; omega
  | false => rw [hb] at h; exact h
theorem eqAt_t {m i : Nat} {x y : B} (h : eqAt m i x y = true) (hi : i < m) : x = y := by
  have h : (Bool.rec (bEq x y) true (Nat.ble m i) : Bool) = true := h
  cases hb : Nat.ble m i with
  | true => have := nat_le hb; omega
  | false => rw [hb] at h; exact bEq_eq h
theorem trEq_eq {m : Nat} {a b : Tr B} (p : Pth) (h : trEq m a b = true) (hp : p.n < m) : gt .dd p a = gt .dd p b := by
  obtain ⟨s, t, o⟩ := a
  obtain ⟨s', t', o'⟩ := b
  obtain ⟨h1, h⟩ := and_t h
  obtain ⟨h2, h3⟩ := and_t h
  have h1 := nat_le h1
  cases p with
  | s i j =>
    have hn := Pth.n_s i j
    have k1 := pastB_t (n8q_eq h2 i) (by omega)
    exact eqAt_t (n8q_eq k1 j) (by omega)
  | t i j k =>
    have hn := Pth.n_t i j k
    have k1 := pastB_t (n8q_eq (pastB_t h3 (by omega)) i) (by omega)
    have k2 := pastB_t (n8q_eq k1 j) (by omega)
    exact eqAt_t (n8q_eq k2 k) (by omega)
  | o n => have := Pth.n_o n; omega
theorem hpEq_eq {m : Nat} {a b : Hp} (h : hpEq m a b = true) : b.er = a.er ∧ b.eq = a.eq ∧ ∀ p : Pth, p.n < m → b.at p = a.at p := by
  obtain ⟨b1, n1, er1, eq1, f1, d1, c1⟩ := a
  obtain ⟨b2, n2, er2, eq2, f2, d2, c2⟩ := b
  obtain ⟨h1, h2⟩ := and_t (show and (Nat.beq er1 er2) (and (Nat.beq eq1 eq2) (trEq m b1 b2)) = true from h)
  obtain ⟨h2, h3⟩ := and_t h2
  exact ⟨(nat_eq h1).symm, (nat_eq h2).symm, fun p hp => (trEq_eq p h3 hp).symm⟩
theorem sameA_out {m : Nat} {r q : RES} {x : Ans} (h : sameA m r x = some q) : q = r ∧ ∃ r', x = some r' ∧ r'.1 = r.1 ∧ r'.2.er = r.2.er ∧ r'.2.eq = r.2.eq ∧ ∀ p : Pth, p.n < m → r'.2.at p = r.2.at p := by
  obtain ⟨r', rfl, h⟩ := onO_some h
  obtain ⟨v, hh⟩ := r
  obtain ⟨v', hh'⟩ := r'
  obtain ⟨h1, h2⟩ := onB_t (show onB (and (vEq v v') (hpEq m hh hh')) (some (v, hh)) none = some q from h)
  obtain ⟨h3, h4⟩ := and_t h1
  exact ⟨(Option.some.inj h2).symm, _, rfl, (vEq_eq h3).symm, hpEq_eq h4⟩
theorem eachM_out {m : Nat} {f : ME → Ans} {r : RES} : ∀ {l : List ME} {q : RES}, eachM m f r l = some q → q = r ∧ ∀ x ∈ l, ∃ r', f x = some r' ∧ r'.1 = r.1 ∧ r'.2.er = r.2.er ∧ r'.2.eq = r.2.eq ∧ ∀ p : Pth, p.n < m → r'.2.at p = r.2.at p
  | [], q, h => ⟨(Option.some.inj h).symm, fun x hx => by cases hx⟩
  | x :: l, q, h => by
    obtain ⟨r1, h1, h2⟩ := onO_some (show onO (sameA m r (f x)) (fun _ => eachM m f r l) = some q from h)
    obtain ⟨i1, i2⟩ := eachM_out (l := l) h2
    refine ⟨i1, fun y hy => ?_⟩
    rcases List.mem_cons.1 hy with rfl | hy
    · exact (sameA_out h1).2
    · exact i2 y hy
theorem memN_eq (x : Nat) : ∀ l : List Nat, memN x l = l.contains x
  | [] => rfl
  | y :: l => by
    show (Nat.beq x y || memN x l) = _
    rw [memN_eq x l, List.contains_cons]
    congr 1
    rw [Bool.eq_iff_iff]; simp
theorem leftM_out {since : Nat} {seen : List Nat} {r : RES} : ∀ {es : List ME} {c : List ME → Ans}, leftM since seen c es = some r → (∀ x ∈ es, x.2.2 < since) ∧ c (es.filter fun x => !seen.contains x.2.2) = some r
  | [], c, h => ⟨fun x hx => by (cases hx), h⟩
  | (a, v, b) :: es, c, h => by
    obtain ⟨h1, h2⟩ := onB_t (show onB (Nat.blt b since) (Bool.rec (leftM since seen (fun l => c ((a, v, b) :: l)) es) (leftM since seen c es) (memN b seen)) none = some r from h)
    rw [memN_eq] at h2
    rw [List.filter_cons]
    cases hs : seen.contains b with
    | true =>
      rw [hs] at h2
      obtain ⟨i1, i2⟩ := leftM_out h2
      refine ⟨fun x hx => ?_, by simpa using i2⟩
      rcases List.mem_cons.1 hx with rfl | hx
      · exact nat_lt h1
      · exact i1 x hx
    | false =>
      rw [hs] at h2
      obtain ⟨i1, i2⟩ := leftM_out h2
      refine ⟨fun x hx => ?_, by simpa using i2⟩
      rcases List.mem_cons.1 hx with rfl | hx
      · exact nat_lt h1
      · exact i1 x hx
section
variable {Y : Lay} {P : Program} {κ : KP} {cal : Cal} {o : Oper} {ro : Option Nat}
theorem wpj_call {f : Pth} {args : List O} (hc : compI Y P o = some (.call f args)) (HC : CalOk Y P κ cal) : WpJ Y P κ cal o (.call f args) ro := by
  intro t h k r hr n e a w hκ hT hR hD next Q hn
  obtain ⟨c, g, ho, hcal, rfl, hx⟩ := call_inv hc
  obtain ⟨v, h1, hr1, hr2⟩ := retK_some (show retK k (cal (.fn (Pth.of g) []) (evs t args) h) = some r from hr)
  obtain ⟨a1, a2⟩ := args_is hT (fun x hx => by simp only [ho, Op.operands, Call.operands]; simp; first | exact .inl (by simpa using hx) | exact .inr (by simpa using hx) | exact (by simpa using hx)) hx
  have H := HC _ _ _ _ hr1 e w _ hκ hR hT.gl rfl a1 a2
  have hxs : (c.args.toList.map a.eval).toArray = c.args.map a.eval := by simp [← Array.toList_map]
  rw [hxs] at H
  refine call_wp ho hcal (s := .fn (Pth.of g) []) (by simp [S.tr, Pth.of_n, Act.eval]) H ?_
  rintro x w' ⟨e', i1, i2, i3, i4⟩
  have i2 : h1.df = h.df := i2
  exact hn v h1 e' w' x a.defers r hr2 (.refl _ _) i1 i3 i4 (by rw [i2]; exact hD.agr i1.agr i1.le)
theorem wpj_callv {f : O} {args : List O} (hc : compI Y P o = some (.callv f args)) (HC : CalOk Y P κ cal) : WpJ Y P κ cal o (.callv f args) ro := by
  intro t h k r hr n e a w hκ hT hR hD next Q hn
  obtain ⟨c, i, ho, hcal, rfl, hx⟩ := callv_inv hc
  obtain ⟨s, hs, hr0⟩ := asS_some (show asS (ev t (.t (Pth.of i))) _ = some r from hr)
  obtain ⟨v, h1, hr1, hr2⟩ := retK_some (show retK k (cal s (evs t args) h) = some r from hr0)
  obtain ⟨a1, a2⟩ := args_is hT (fun x hx => by simp only [ho, Op.operands, Call.operands]; simp; first | exact .inl (by simpa using hx) | exact .inr (by simpa using hx) | exact (by simpa using hx)) hx
  obtain ⟨e1, e2⟩ := ev_is hT (x := .tmp i) (y := .t (Pth.of i)) (by simp [ho, Op.operands, Call.operands, hcal]) rfl
  rw [hs] at e1 e2
  have H := HC _ _ _ _ hr1 e w _ hκ hR hT.gl e1 a1 a2
  have hnu : nU s = true := by cases s <;> first | rfl | exact H.elim
  have hn0 : a.eval (.tmp i) = s.tr e := by
    rcases e2 with e2 | e2
    · cases e2
    · exact e2.eq hnu
  have hxs : (c.args.toList.map a.eval).toArray = c.args.map a.eval := by simp [← Array.toList_map]
  rw [hxs] at H
  refine call_wp ho hcal (s := s) hn0 H ?_
  rintro x w' ⟨e', i1, i2, i3, i4⟩
  have i2 : h1.df = h.df := i2
  exact hn v h1 e' w' x a.defers r hr2 (.refl _ _) i1 i3 i4 (by rw [i2]; exact hD.agr i1.agr i1.le)
theorem dfr_inv {f : Pth} {args : List O} (h : compI Y P o = some (.dfr f args)) : ∃ (c : Call) (g : FuncId), o.op = .defer c ∧ c.callee = .value (.func g) ∧ f = Pth.of g ∧ compXs Y c.args.toList = some args := by
  unfold compI at h
  (repeat' split at h) <;> (try (simp only [Option.map_eq_some_iff] at h; obtain ⟨_, hx, h⟩ := h)) <;> (try (cases h; done)) <;> (try cases h)
  all_goals first
    | exact ⟨_, _, by assumption, by assumption, rfl, by assumption⟩
    | (exfalso; unfold compE at h; (repeat' split at h) <;> cases h)
theorem nxt_inv {x : O} (h : compI Y P o = some (.nxt x)) : ∃ y, o.op = .next y false ∧ compX Y y = some x := by
  unfold compI at h
  (repeat' split at h) <;> (try (simp only [Option.map_eq_some_iff] at h; obtain ⟨_, hx, h⟩ := h)) <;> (try (cases h; done)) <;> (try cases h)
  all_goals first
    | exact ⟨_, by assumption, by assumption⟩
    | (exfalso; unfold compE at h; (repeat' split at h) <;> cases h)
theorem Rel.df {e : Env} {h h' : Hp} {w : World} (H : Rel e h w) (hb : h'.b = h.b) (hn : h'.n = h.n) (h1 : h'.er = h.er) (h2 : h'.eq = h.eq) : Rel e h' w := by
  have hat : ∀ r, h'.at r = h.at r := fun r => by simp only [Hp.at, hb]
  exact ⟨fun r hr => by rw [hat]; exact H.ok r (hn ▸ hr), fun r r' hr hr' => by rw [hat, hat]; exact H.sep r r' (hn ▸ hr) (hn ▸ hr'), fun r hr => by rw [hat, hn]; exact H.val r (hn ▸ hr), fun r hr => by rw [hat, h1, h2]; exact H.esc r (hn ▸ hr)⟩
theorem Step.df {e : Env} {h h' : Hp} {w : World} (H : Rel e h w) (hb : h'.b = h.b) (hn : h'.n = h.n) (h1 : h'.er = h.er) (h2 : h'.eq = h.eq) (h3 : h'.fz = h.fz) (h4 : h'.ch = h.ch) : Step e h w e h' w :=
  ⟨H.df hb hn h1 h2, h3, h4, Agr.refl _ _, by rw [hn]; exact Nat.le_refl _, rfl, rfl, rfl, Nat.le_refl _, fun _ _ _ => rfl, fun r hr hw => .inl ⟨r, hn ▸ hr, by simpa only [Hp.at, hb] using hw, rfl⟩, fun r hr hw => .inl ⟨r, hn ▸ hr, by simpa only [Hp.at, hb] using hw, rfl⟩⟩
theorem wpj_dfr {f : Pth} {args : List O} (hc : compI Y P o = some (.dfr f args)) : WpJ Y P κ cal o (.dfr f args) none := by
  intro t h k r hr n e a w hκ hT hR hD next Q hn
  obtain ⟨c, g, ho, hcal, rfl, hx⟩ := dfr_inv hc
  obtain ⟨b, m, er, eq, fz, df, ch⟩ := h
  have hr : k vu (Hp.mk b m er eq fz (.fn (Pth.of g) (evs t args) :: df) ch) = some r := hr
  obtain ⟨a1, a2⟩ := args_is hT (fun x hx => by simp only [ho, Op.operands, Call.operands]; simp; first | exact .inl (by simpa using hx) | exact .inr (by simpa using hx) | exact (by simpa using hx)) hx
  refine ⟨fun f _ => wd_fn none f, ?_⟩
  have hrun : (o.semAt (wd none).round a.eval).run P w = .ok (.defer { target := .fn (.func g) #[], args := c.args.map a.eval }) w := by
    show (o.semAt none a.eval).run P w = _
    rw [Oper.semAt_none]
    simp [execOp, ho, resolve, hcal, Act.eval, Deferred.ofValue]
  rw [hrun, Oper.uponIn_defer]
  refine hn vu _ e w undef _ r hr (.refl _ _) (Step.df hR rfl rfl rfl rfl rfl rfl) undef_is rfl ?_
  refine All2.cons ⟨a1, _, a2, ?_⟩ hD
  rw [Pth.of_n]
  congr 1
  simp [← Array.toList_map]
theorem apN_eq (b : List Nat) : ∀ a : List Nat, apN a b = a ++ b
  | [] => rfl
  | x :: a => by show x :: apN a b = _; rw [apN_eq b a]; rfl
theorem Hp.setK_eq' (h : Hp) (r : Pth) (x : B) (k : Hp → Ans) : h.setK r x k = k (h.set r x) := Hp.setK_eq h r x k
theorem wpj_nxt {x : O} (hc : compI Y P o = some (.nxt x)) : WpJ Y P κ cal o (.nxt x) ro := by
  intro t h k r hr n e a w hκ hT hR hD next Q hn
  obtain ⟨y, ho, hx⟩ := nxt_inv hc
  have hno : ∀ c, o.op ≠ .defer c := fun c h => by rw [ho] at h; cases h
  obtain ⟨q, off, hq, r1⟩ := asP_some (show asP (ev t x) _ = some r from hr)
  obtain ⟨h0, r2⟩ := onB_t r1
  obtain ⟨m, since, seen, last, hg, r3⟩ := itK_some r2
  have hoff := nat_eq h0
  clear hr r1 r2
  subst hoff
  obtain ⟨e1, e2⟩ := ev_eq hT (x := y) (by simp [ho, Op.operands]) hx hq (by simp) rfl
  obtain ⟨g1, g2⟩ := hR.gb (r := q) e2
  rw [hg] at g1 g2
  obtain ⟨g0, g1⟩ := g1
  have e1 : a.eval y = .pointer (some ⟨(e.σ q).1, 0, none⟩) := by rw [← adr0 g0]; exact e1
  have over : k (.tup [.s (.b false)]) h = some r → (Instr.next (a.eval y) false o.type).run P w = .ok (.tuple #[.bool false]) w → o.wpIn (wd ro) n P a w next Q := fun hk hrun => by
    refine wpIn_run hno (x := .tuple #[.bool false]) (by simp only [execOp, ho, Sem.run_bind, hrun, Result.andThen_ok]; rfl) (.inl rfl) ?_
    exact hn _ h e w _ a.defers r hk (.refl _ _) (.refl hR) (.inr (.inl rfl)) rfl hD
  cases m with
  | none =>
    refine over r3 ?_
    have g1 : w.heap[(e.σ q).1]? = some (.mapIter none since seen.toArray last) := g1
    have hgo : (getObj (e.σ q).1).run P w = .ok (.mapIter none since seen.toArray last) w := by simp [getObj, Sem.run, g1]
    rw [e1]
    simp only [Instr.next, Sem.run_bind, hgo, Result.andThen_ok]
    rfl
  | some m =>
    obtain ⟨es, ck, hm, r4⟩ := mpK_some (show mpK (h.gb m) _ = some r from r3)
    obtain ⟨hck, r5⟩ := onB_t r4
    obtain ⟨hck, hsl⟩ := and_t hck
    have hlast := nat_eq hck
    have hsl := nat_le hsl
    obtain ⟨hold, r6⟩ := leftM_out r5
    clear r3 r4 r5
    have g1 : w.heap[(e.σ q).1]? = some (.mapIter (some (e.σ m).1) since seen.toArray last) := g1
    have g2 : m.ok h.n.n = true := g2
    obtain ⟨m1, m2⟩ := hR.gb (r := m) g2
    rw [hm] at m1 m2
    have m1 : w.heap[(e.σ m).1]? = some (.map (es.map (entT e)).toArray ck) := m1
    simp only [B.ok, B.rf, List.all_eq_true, Bool.and_eq_true] at m2
    have hlf : (leftOf (es.map (entT e)).toArray seen.toArray).toList = (es.filter fun x => !seen.contains x.2.2).map (entT e) := by
      simp only [leftOf, Array.toList_filter, List.filter_map]
      congr 1
      apply List.filter_congr
      intro z _
      simp only [Function.comp, entT, List.contains_toArray]
    have hfr : ∀ (l : List ME) (f : ME → Ans), (∀ z, f z = (Prod.casesOn z fun key q2 => Prod.casesOn q2 fun v b => key.toC fun key => v.toC fun v => h.setK q (.it (some m) since (apN seen [b]) ck) fun h => k (.tup [.s (.b true), key, v]) h)) →
        (es.filter fun x => !seen.contains x.2.2) = l → (∀ z ∈ l, ∃ r', f z = some r' ∧ Lk h r r') → (l = [] → k (.tup [.s (.b false)]) h = some r) → o.wpIn (wd ro) n P a w next Q := fun l f hf hl hall hnil => by
      rcases run_next_at (P := P) w o.type (e.σ q).1 (e.σ m).1 since last seen.toArray (es.map (entT e)).toArray ck g1 m1 (fun z hz => by
        simp only [List.mem_map] at hz
        obtain ⟨u, hu, rfl⟩ := hz
        exact hold u hu) (by omega) with ⟨h1, hrun⟩ | ⟨e3, he3, w1, hw1, hrun⟩
      · refine over (hnil ?_) (by rw [e1]; exact hrun)
        have : (leftOf (es.map (entT e)).toArray seen.toArray).toList = [] := by simpa using h1
        rw [hlf, hl] at this
        simpa using this
      · rw [hlf, hl] at he3
        obtain ⟨z, hz, rfl⟩ := List.mem_map.1 he3
        obtain ⟨r', hr1, hr2⟩ := hall z hz
        have hzes : z ∈ es := by rw [← hl] at hz; exact (List.mem_filter.1 hz).1
        obtain ⟨key, v, b⟩ := z
        rw [hf] at hr1
        obtain ⟨ck', hr3, _, _, _, ka5, ka6⟩ := toC_out hr1
        obtain ⟨cv, hr4, _, _, _, va5, va6⟩ := toC_out hr3
        rw [Hp.setK_eq', apN_eq] at hr4
        have hz2 := m2 _ hzes
        have hqn := Pth.ok_iff.1 e2
        have hat : h.at q = .it (some m) since seen last := by rw [← Hp.gb_eq]; exact hg
        have hs : Step e h w e (h.set q (.it (some m) since (seen ++ [b]) ck)) (setBlock w1 (e.σ q).1 (.mapIter (some (e.σ m).1) since (seen.toArray.push b) ck)) := by
          have hh : w1.heap = w.heap ∧ w1.os = w.os ∧ w1.tape = w.tape ∧ w1.output = w.output := by rcases hw1 with rfl | rfl <;> exact ⟨rfl, rfl, rfl, rfl⟩
          have hlt : (e.σ q).1 < w1.heap.size := by rw [hh.1]; exact (Array.getElem?_eq_some_iff.1 g1).1
          refine Step.upd hR hqn (by rw [hat]; rfl) ?_ g2 ?_ (fun b' hb' => ?_) (by simp [setBlock, hh.1]) hh.2.1 hh.2.2.1 hh.2.2.2
          · refine ⟨g0, ?_⟩
            simp only [setBlock, Array.getElem?_setIfInBounds, if_pos hlt]
            simp
          · have := hR.esc q hqn
            rw [hat] at this
            exact this
          · simp only [setBlock, Array.getElem?_setIfInBounds, hh.1]
            rw [if_neg (fun c => hb' c.symm)]
        refine wpIn_run hno (x := .tuple #[.bool true, key.tr e, v.tr e]) (by rw [← e1] at hrun; simp only [execOp, ho, Sem.run_bind, hrun, Result.andThen_ok]; rfl) (.inl rfl) ?_
        refine hn _ _ e _ _ a.defers r' hr4 hr2 hs (.inr (.inl ?_)) ?_ ?_
        · simp only [V.tr, List.map_cons, List.map_nil, ka5, va5]; rfl
        · show (C.rf (Pth.ok h.n.n) (.s (.b true)) && (C.rf (Pth.ok h.n.n) ck' && (C.rf (Pth.ok h.n.n) cv && true))) = true
          rw [ka6 _ (V.rk_rf hz2.1), va6 _ (V.rk_rf hz2.2)]; rfl
        · exact hD
    cases hl : (es.filter fun x => !seen.contains x.2.2) with
    | nil =>
      rw [hl] at r6
      exact hfr [] (fun z => (Prod.casesOn z fun key q2 => Prod.casesOn q2 fun v b => key.toC fun key => v.toC fun v => h.setK q (.it (some m) since (apN seen [b]) ck) fun h => k (.tup [.s (.b true), key, v]) h)) (fun _ => rfl) hl (fun z hz => by cases hz) (fun _ => r6)
    | cons z l =>
      rw [hl] at r6
      cases l with
      | nil =>
        refine hfr [z] (fun z => (Prod.casesOn z fun key q2 => Prod.casesOn q2 fun v b => key.toC fun key => v.toC fun v => h.setK q (.it (some m) since (apN seen [b]) ck) fun h => k (.tup [.s (.b true), key, v]) h)) (fun _ => rfl) hl (fun u hu => ?_) (fun h => by cases h)
        obtain rfl := List.mem_singleton.1 hu
        exact ⟨r, r6, .refl _ _⟩
      | cons z2 l =>
        obtain ⟨hch, r7⟩ := onB_t (show onB h.ch _ none = some r from r6)
        obtain ⟨r0, r8, r9⟩ := onO_some r7
        obtain ⟨rfl, r10⟩ := eachM_out r9
        refine hfr (z :: z2 :: l) (fun z => (Prod.casesOn z fun key q2 => Prod.casesOn q2 fun v b => key.toC fun key => v.toC fun v => h.setK q (.it (some m) since (apN seen [b]) ck) fun h => k (.tup [.s (.b true), key, v]) h)) (fun _ => rfl) hl (fun u hu => ?_) (fun h => by cases h)
        rcases List.mem_cons.1 hu with rfl | hu
        · exact ⟨r, r8, .refl _ _⟩
        · obtain ⟨r', i1, i2, i3, i4, i5⟩ := r10 u hu
          exact ⟨r', i1, .inr ⟨hch, i2, i3, i4, i5⟩⟩
theorem wpj_all {op : J} (hc : compI Y P o = some op) (HC : CalOk Y P κ cal) (hro : ro = none ∨ ∀ f args, op ≠ .dfr f args) : WpJ Y P κ cal o op ro := by
  have hcls := comp_cls hc
  by_cases hcal : op.calls = true
  · cases op <;> first | (cases hcal; done) | skip
    · exact wpj_call hc HC
    · exact wpj_callv hc HC
    · exact wpj_nxt hc
    · rcases hro with rfl | hro
      · exact wpj_dfr hc
      · exact absurd rfl (hro _ _)
  · have hcal : op.calls = false := by simpa using hcal
    refine Acts.wp (hcls.acts hcal) fun c ho => ?_
    unfold compI at hc
    rw [ho] at hc
    simp only at hc
    split at hc
    · simp only [Option.map_eq_some_iff] at hc
      obtain ⟨_, _, rfl⟩ := hc
      cases hcal
    · cases hc
end
structure TS (P : Program) (N : Nat) (e : Env) (h : Hp) (t : T) (a : Act) : Prop where
  size : a.tmps.size = N
  tr : TR e t a.tmps
  rf : t.rf (Pth.ok h.n.n) = true
  df : DfR P e h.n.n h.df a.defers
section
variable {Y : Lay} {P : Program} {N : Nat} {e e' : Env} {h h' : Hp} {w w' : World} {t : T} {a : Act}
theorem TS.ot (S : TS P N e h t a) (G : Gl Y e (Pth.ok h.n.n)) (Z : Operand → Prop) : OT Y e t (Pth.ok h.n.n) a Z :=
  ⟨fun i _ => ⟨Tr.rf_gt S.rf, by have := S.tr (Pth.of i); rw [Pth.of_n] at this; exact this⟩, G⟩
theorem Tr.ok_mono {n n' : Nat} (hn : n ≤ n') {t : T} (h : t.rf (Pth.ok n) = true) : t.rf (Pth.ok n') = true := Tr.rf_mono (fun _ => Pth.ok_mono hn) h
theorem TS.step (S : TS P N e h t a) (H : Step e h w e' h' w') {ds : List Deferred} (hD : DfR P e' h'.n.n h'.df ds) : TS P N e' h' t { a with defers := ds } :=
  ⟨S.size, H.agr.t S.rf S.tr, Tr.ok_mono H.le S.rf, hD⟩
theorem put_defers (a : Act) (d : Option Tmp) (x : Value) : (a.put d x).defers = a.defers := by cases d <;> rfl
theorem put_size (a : Act) (d : Option Tmp) (x : Value) : (a.put d x).tmps.size = a.tmps.size := by cases d <;> simp [Act.put]
theorem TS.put (S : TS P N e h t a) {d : Option Tmp} (hd : ∀ i, d = some i → i < N) {v : V} {x : Value} (hx : Isu e v x) (hv : v.ok h.n.n = true) : TS P N e h (putT (d.map Pth.of) t v) (a.put d x) := by
  refine ⟨by rw [put_size]; exact S.size, fun p => ?_, ?_, by rw [put_defers]; exact S.df⟩
  · cases d with
    | none => exact S.tr p
    | some i =>
      have hi : i < a.tmps.size := by rw [S.size]; exact hd i rfl
      show gt vu p (st vu (Pth.of i) v t) = .u ∨ Is e (gt vu p (st vu (Pth.of i) v t)) ((a.tmps.setIfInBounds i x).getD p.n undef)
      rw [gt_st]
      by_cases hp : p = Pth.of i
      · rw [if_pos hp, hp, Pth.of_n]
        have : (a.tmps.setIfInBounds i x).getD i undef = x := by simp [Array.getD, hi]
        rw [this]; exact hx
      · rw [if_neg hp]
        have : (a.tmps.setIfInBounds i x).getD p.n undef = a.tmps.getD p.n undef := by
          have hne : i ≠ p.n := fun c => hp (by rw [c, Pth.of_of])
          simp [Array.getD_eq_getD_getElem?, Array.getElem?_setIfInBounds, hne]
        rw [this]; exact S.tr p
  · cases d with
    | none => exact S.rf
    | some i => exact Tr.rf_st S.rf hv
theorem gdK_out {j : Pth} {w : Bool} {y n : Ans} {r : RES} (h : gdK t j w y n = some r) : (∃ q, gt vu j t = .s (.b q) ∧ (if q = w then y else n) = some r) ∨ (gt vu j t = vu ∧ n = some r) := by
  unfold gdK at h
  rw [gtV_eq] at h
  cases hg : gt vu j t with
  | s s =>
    rw [hg] at h
    cases s <;> first | (cases h; done) | skip
    rename_i q
    refine .inl ⟨q, rfl, ?_⟩
    cases q <;> cases w <;> exact h
  | agg l => rw [hg] at h; cases h
  | u => rw [hg] at h; cases h
  | tup cs =>
    rw [hg] at h
    cases cs with
    | nil => exact .inr ⟨rfl, h⟩
    | cons _ _ => cases h
theorem compGs_cons {ops : Array Oper} {o : Oper} {os : List Oper} {gl : List GJ} (h : compGs Y P N ops (o :: os) = some gl) : ∃ g l, gl = g :: l ∧ compG Y P N ops o = some g ∧ compGs Y P N ops os = some l := by
  simp only [compGs] at h
  split at h
  · rename_i g l h1 h2; cases h; exact ⟨g, l, rfl, h1, h2⟩
  · cases h
theorem compG_spec {ops : Array Oper} {o : Oper} {g : GJ} (h : compG Y P N ops o = some g) : ∃ op, compI Y P o = some op ∧ (∀ i, o.dst = some i → i < N) ∧
    ((o.guard = none ∧ g = .g (o.dst.map Pth.of) op) ∨ ∃ j want oj d, o.guard = some (j, want) ∧ ops[j]? = some oj ∧ oj.dst = some d ∧ g = .c (o.dst.map Pth.of) op (Pth.of d) want) := by
  cases hi : compI Y P o with
  | none => simp [compG, hi] at h
  | some op =>
  refine ⟨op, rfl, ?_⟩
  have fin : (match o.guard with
    | none => some (GJ.g (o.dst.map Pth.of) op)
    | some (j, want) => match ops[j]? with
      | some oj => match oj.dst with
        | some d => some (GJ.c (o.dst.map Pth.of) op (Pth.of d) want)
        | none => none
      | none => none) = some g → ((o.guard = none ∧ g = .g (o.dst.map Pth.of) op) ∨ ∃ j want oj d, o.guard = some (j, want) ∧ ops[j]? = some oj ∧ oj.dst = some d ∧ g = .c (o.dst.map Pth.of) op (Pth.of d) want) := fun h => by
    split at h
    · rename_i hg; cases h; exact .inl ⟨hg, rfl⟩
    · rename_i j want hg
      split at h
      · rename_i oj hoj
        split at h
        · rename_i d hd; cases h; exact .inr ⟨j, want, oj, d, hg, hoj, hd, rfl⟩
        · cases h
      · cases h
  unfold compG at h
  rw [hi] at h
  simp only at h
  cases hd : o.dst with
  | none =>
    rw [hd] at h fin
    exact ⟨fun i hi => (by cases hi), fin h⟩
  | some d =>
    rw [hd] at h fin
    by_cases hlt : d < N
    · simp only [hlt, decide_true, if_true] at h
      exact ⟨fun i hi => (by cases hi; exact hlt), fin h⟩
    · simp [hlt] at h
theorem yielded_is {ops : Array Oper} {oj : Oper} {j d : Nat} (hT : TR e t a.tmps) (hj : ops[j]? = some oj) (hd : oj.dst = some d) : (∀ q, gt vu (Pth.of d) t = .s (.b q) → yielded ops a.tmps j = some q) ∧ (gt vu (Pth.of d) t = vu → yielded ops a.tmps j = none) := by
  have hy : yielded ops a.tmps j = match a.tmps[d]? with | some (.bool b) => some b | _ => none := by
    simp only [yielded, hj, Option.bind_some, hd]
    rfl
  have ht := hT (Pth.of d)
  rw [Pth.of_n, Array.getD_eq_getD_getElem?] at ht
  refine ⟨fun q hq => ?_, fun hq => ?_⟩
  · rw [hq] at ht
    rcases ht with ht | ht
    · cases ht
    · have ht := ht.eq (by rfl)
      rw [hy]
      cases hx : a.tmps[d]? with
      | none => rw [hx] at ht; cases ht
      | some x =>
        rw [hx] at ht
        simp only [Option.getD_some] at ht
        rw [ht]; rfl
  · rw [hq] at ht
    rcases ht with ht | ht
    · cases ht
    · have ht := ht.eq (by rfl)
      rw [hy]
      cases hx : a.tmps[d]? with
      | none => rfl
      | some x =>
        rw [hx] at ht
        simp only [Option.getD_some] at ht
        rw [ht]; rfl
end
def kOf (kn kr : KT) (kx : Nat → KT) : Exit → Option KT
  | .normal => some kn
  | .ret => some kr
  | .exit id => if id < 1000000 then some (kx id) else none
  | .goto l => some (kx (goId l))
  | _ => none
def QE (P : Program) (N : Nat) (kn kr : KT) (kx : Nat → KT) (r : RES) (e : Env) (h : Hp) (w : World) : Exit → Act → World → Prop := fun ex a w' =>
  match kOf kn kr kx ex with
  | some k => ∃ e' h' t', Step e h w e' h' w' ∧ TS P N e' h' t' a ∧ ∃ r', k t' h' = some r' ∧ Lk h r r'
  | none => False
theorem QE.step {P : Program} {N : Nat} {kn kr : KT} {kx : Nat → KT} {r r1 : RES} {e e1 : Env} {h h1 : Hp} {w w1 w' : World} {ex : Exit} {a : Act} (H : Step e h w e1 h1 w1) (L : Lk h r r1) (hq : QE P N kn kr kx r1 e1 h1 w1 ex a w') : QE P N kn kr kx r e h w ex a w' := by
  unfold QE at *
  split
  · rename_i k hk
    rw [hk] at hq
    obtain ⟨e', h', t', i1, i2, r', i3, i4⟩ := hq
    exact ⟨e', h', t', H.trans i1, i2, r', i3, L.trans (i4.of H.fz H.ch)⟩
  · rename_i hk
    rw [hk] at hq
    exact hq
section
variable {Y : Lay} {P : Program} {N M : Nat} {κ : KP} {cal : Cal} {ro : Option Nat} {n : Nat}
theorem exL_snd (hNM : N ≤ M) (HC : CalOk Y P κ cal) {ops : Array Oper} {Q : Exit → Act → World → Prop} : ∀ (os : List Oper) (gl : List GJ), compGs Y P N ops os = some gl → (ro = none ∨ gl.all GJ.nd = true) → ∀ (t : T) (h : Hp) (k : KT) (r : RES), exL gl cal t h k = some r →
    ∀ (e : Env) (a : Act) (w : World), EK e κ → Rel e h w → Gl Y e (Pth.ok h.n.n) → TS P M e h t a →
    (∀ e' h' t' a' w', Step e h w e' h' w' → TS P M e' h' t' a' → (∃ r', k t' h' = some r' ∧ Lk h r r') → Q .normal a' w') → wpListIn (wd ro) n P ops Q os a w
  | [], gl, hc, hro, t, h, k, r, hr, e, a, w, hκ, hR, hG, hS, hn => by
    simp only [compGs, Option.some.injEq] at hc
    subst hc
    exact hn e h t a w (.refl hR) hS ⟨r, hr, .refl _ _⟩
  | o :: os, gl, hc, hro, t, h, k, r, hr, e, a, w, hκ, hR, hG, hS, hn => by
    obtain ⟨g, l, rfl, hg, hl⟩ := compGs_cons hc
    obtain ⟨op, hi, hdst0, hgd⟩ := compG_spec hg
    have hdst : ∀ i, o.dst = some i → i < M := fun i hi => Nat.lt_of_lt_of_le (hdst0 i hi) hNM
    have hr : exG g cal t h (fun t h => exL l cal t h k) = some r := hr
    have hro2 : ro = none ∨ l.all GJ.nd = true := hro.imp id fun h => by simp only [List.all_cons, Bool.and_eq_true] at h; exact h.2
    have hro1 : ro = none ∨ ∀ f args, op ≠ .dfr f args := hro.imp id fun h f args hop => by
      simp only [List.all_cons, Bool.and_eq_true] at h
      subst hop
      rcases hgd with ⟨_, rfl⟩ | ⟨_, _, _, _, _, _, _, rfl⟩ <;> cases h.1
    have next : ∀ (t1 : T) (h1 : Hp) (a1 : Act) (w1 : World) (e1 : Env) (r1 : RES), exL l cal t1 h1 k = some r1 → Lk h r r1 → Step e h w e1 h1 w1 → TS P M e1 h1 t1 a1 → wpListIn (wd ro) n P ops Q os a1 w1 := fun t1 h1 a1 w1 e1 r1 i1 i2 i3 i4 => by
      refine exL_snd hNM HC os l hl hro2 t1 h1 k r1 i1 e1 a1 w1 (hκ.agr i3.agr) i3.rel (hG.step i3) i4 fun e' h' t' a' w' j1 j2 ⟨r', j3, j4⟩ => ?_
      exact hn e' h' t' a' w' (i3.trans j1) j2 ⟨r', j3, i2.trans (j4.of i3.fz i3.ch)⟩
    have hdo : g_g (o.dst.map Pth.of) op cal t h (fun t h => exL l cal t h k) = some r → o.wpIn (wd ro) n P a w (wpListIn (wd ro) n P ops Q os) Q := fun hr => by
      refine wpj_all hi HC hro1 t h _ r hr n e a w hκ (hS.ot hG _) hR hS.df _ Q fun v h1 e' w' x ds r' j1 j2 j3 j4 j5 j6 => ?_
      rw [putK_eq] at j1
      exact next _ h1 _ w' e' r' j1 j2 j3 ((hS.step j3 j6).put hdst j4 j5)
    have hskip : putK (o.dst.map Pth.of) t vu (fun t => exL l cal t h k) = some r → wpListIn (wd ro) n P ops Q os (a.put o.dst undef) w := fun hr => by
      rw [putK_eq] at hr
      exact next _ h _ w e r hr (.refl _ _) (.refl hR) (hS.put hdst undef_is rfl)
    have hab : ∀ f, o.about P w a.eval = some f → (wd ro).fn f := fun f _ => wd_fn ro f
    unfold wpListIn
    rcases hgd with ⟨h1, rfl⟩ | ⟨j, want, oj, d, h1, h2, h3, rfl⟩
    · rw [if_pos (by simp [Region.wanted, h1])]
      exact hdo hr
    · have hr : gdK t (Pth.of d) want (g_g (o.dst.map Pth.of) op cal t h fun t h => exL l cal t h k) (putK (o.dst.map Pth.of) t vu fun t => exL l cal t h k) = some r := hr
      obtain ⟨y1, y2⟩ := yielded_is hS.tr h2 h3
      have hw : Region.wanted o (yielded ops a.tmps) = (yielded ops a.tmps j == some want) := by simp [Region.wanted, h1]
      rcases gdK_out hr with ⟨q, hq, hr⟩ | ⟨hq, hr⟩
      · rw [hw, y1 q hq]
        by_cases hqw : q = want
        · rw [if_pos hqw] at hr
          rw [if_pos (by rw [hqw]; simp)]
          exact hdo hr
        · rw [if_neg hqw] at hr
          rw [if_neg (by simpa using hqw)]
          exact ⟨hab, hskip hr⟩
      · rw [hw, y2 hq, if_neg (by simp)]
        exact ⟨hab, hskip hr⟩
end
theorem findLabel_not {l : Nat} : ∀ {c : Code}, l ∉ labelsOf c → findLabel c l = none
  | .seq a b, h => by
    simp only [labelsOf, List.mem_append, not_or] at h
    simp only [findLabel, findLabel_not h.1, findLabel_not h.2]
  | .label l', h => by
    simp only [labelsOf, List.mem_singleton] at h
    simp only [findLabel]
    rw [if_neg]
    simpa using fun e => h e.symm
  | .skip, _ => rfl
  | .region .., _ => rfl
  | .cond .., _ => rfl
  | .block .., _ => rfl
  | .loop .., _ => rfl
  | .rangeFunc .., _ => rfl
  | .exit .., _ => rfl
  | .scope .., _ => rfl
  | .goto .., _ => rfl
  | .ret, _ => rfl
  | .refuse .., _ => rfl
section
variable {P : Program} {ro : Option Nat} {n : Nat}
theorem wcalm {b : Frame} {cs : List Frame} {w : World} (ha : b.about P w = none) : (lone b cs w).fenced P (wd ro) := fenced_calm (n := 0) (wd_fn ro _) (wd_room ro _) ha
theorem stepR_scope {b : Frame} {a : Act} {k : List Item} {cs : List Frame} {w : World} {c : Code} : step P (lone (b.atR a (.code (.scope c) :: k)) cs w) = .next (lone (b.atR a (.code c :: .inScope c :: k)) cs w) :=
  step_lone_go (by simp [stepG, stepG.exec, Frame.atR])
theorem stepR_inScope {b : Frame} {a : Act} {k : List Item} {cs : List Frame} {w : World} {c : Code} : step P (lone (b.atR a (.inScope c :: k)) cs w) = .next (lone (b.atR a k) cs w) :=
  step_lone_go (by simp [stepG, stepG.exec, Frame.atR])
theorem scopeIn_plain {c : Code} {a : Act} {w : World} {Q : Exit → Act → World → Prop} (hn : ∀ l', findLabel c l' = none) (h : c.wpIn (wd ro) n P Q a w) : (Code.scope c).wpIn (wd ro) n P Q a w := fun b k cs hro hb hr => by
  obtain ⟨e, a₁, w₁, hq, harr⟩ := h b (.inScope c :: k) cs hro hb hr
  have h0 : (lone (b.atR a (.code (.scope c) :: k)) cs w).fenced P (wd ro) := fenced_calm hb hr rfl
  cases e with
  | normal => exact ⟨.normal, a₁, w₁, hq, .head h0 stepR_scope (StepsIn.trans harr (.one (fenced_calm hb hr rfl) stepR_inScope))⟩
  | exit id => exact ⟨.exit id, a₁, w₁, hq, fun k' hk => .head h0 stepR_scope (harr.1 k' (by simp [exitTo, hk])), fun hr' hk => let ⟨k₁, h1, h2⟩ := harr.2 hr' (by simp [exitTo, hk]); ⟨k₁, h1, .head h0 stepR_scope h2⟩⟩
  | goto l => exact ⟨.goto l, a₁, w₁, hq, fun k' hk => .head h0 stepR_scope (harr.1 k' (by simp [gotoIn, hn l, hk])), fun hr' hk => let ⟨k₁, h1, h2⟩ := harr.2 hr' (by simp [gotoIn, hn l, hk]); ⟨k₁, h1, .head h0 stepR_scope h2⟩⟩
  | ret => exact ⟨_, a₁, w₁, hq, .of_steps (.one h0 stepR_scope) harr⟩
  | panic ch => exact ⟨_, a₁, w₁, hq, .of_steps (.one h0 stepR_scope) harr⟩
  | outgrown => exact ⟨_, a₁, w₁, hq, .of_steps (.one h0 stepR_scope) harr⟩
end
def LoopR (ro : Option Nat) (P : Program) (c : Code) (Q : Exit → Act → World → Prop) (a : Act) (w : World) : Prop :=
  ∀ (b : Frame) (k : List Item) (cs : List Frame), b.roundOf = ro → ∃ e a' w', Q e a' w' ∧ ArrivesIn (Machine.fenced P (wd ro)) P (lone (b.atR a (.code c :: .inLoop c :: k)) cs w) b k cs e a' w'
section
variable {P : Program} {ro : Option Nat} {n : Nat}
theorem loopR_of_at {c : Code} {Q : Exit → Act → World → Prop} {a : Act} {w : World} (h : LoopR ro P c Q a w) : (Code.loop c).wpIn (wd ro) n P Q a w := fun b k cs hro _ _ => by
  obtain ⟨e, a', w', hq, harr⟩ := h b k cs hro
  exact ⟨e, a', w', hq, .of_steps (.one (wcalm rfl) stepR_loop) harr⟩
theorem atR_of_round {c : Code} {Q : Exit → Act → World → Prop} {a : Act} {w : World} (h : c.wpIn (wd ro) n P (Exit.then (LoopR ro P c Q) Q) a w) : LoopR ro P c Q a w := fun b k cs hro => by
  obtain ⟨e, a₁, w₁, hq, harr⟩ := h b (.inLoop c :: k) cs hro (wd_fn ro _) (wd_room ro _)
  cases e with
  | normal =>
    obtain ⟨e₂, a₂, w₂, hq₂, harr₂⟩ := hq b k cs hro
    exact ⟨e₂, a₂, w₂, hq₂, .of_steps (StepsIn.trans harr (.one (wcalm rfl) stepR_inLoop)) harr₂⟩
  | exit id => exact ⟨_, a₁, w₁, hq, .pass (x := .inLoop c) rfl (fun _ _ => .inl (by simp)) harr⟩
  | goto l => exact ⟨_, a₁, w₁, hq, .pass (x := .inLoop c) rfl (fun _ _ => .inl (by simp)) harr⟩
  | ret => exact ⟨_, a₁, w₁, hq, .pass (x := .inLoop c) rfl (fun _ _ => .inl (by simp)) harr⟩
  | panic ch => exact ⟨_, a₁, w₁, hq, .pass (x := .inLoop c) rfl (fun _ _ => .inl (by simp)) harr⟩
  | outgrown => exact ⟨_, a₁, w₁, hq, .pass (x := .inLoop c) rfl (fun _ _ => .inl (by simp)) harr⟩
end
def ScopeAt (P : Program) (c rest : Code) (Q : Exit → Act → World → Prop) (a : Act) (w : World) : Prop :=
  ∀ (b : Frame) (k : List Item) (cs : List Frame), ∃ e a' w', Q e a' w' ∧ Arrives P (lone (b.at a (.code rest :: .inScope c :: k)) cs w) b k cs e a' w'
def jumpTo (l : Nat) (J : Act → World → Prop) (Q : Exit → Act → World → Prop) : Exit → Act → World → Prop
  | .goto l', a, w => if l' = l then J a w else Q (.goto l') a w
  | e, a, w => Q e a w
theorem scope_jump {P : Program} {c : Code} {l : Nat} {m : Machine} {b : Frame} {k : List Item} {cs : List Frame} {e : Exit} {a : Act} {w : World} {J : Act → World → Prop} {Q : Exit → Act → World → Prop} {rest : Code} (hf : findLabel c l = some rest) (hn : ∀ l', l' ≠ l → findLabel c l' = none)
    (hJ : ∀ a w, J a w → ScopeAt P c rest Q a w) (hq : jumpTo l J Q e a w) (harr : Arrives P m b (.inScope c :: k) cs e a w) : ∃ e a' w', Q e a' w' ∧ Arrives P m b k cs e a' w' := by
  have hg : gotoIn l (.inScope c :: k) = some (.code rest :: .inScope c :: k) := by simp [gotoIn, hf]
  cases e with
  | normal => exact ⟨.normal, a, w, hq, Steps.trans harr (.one step_inScope)⟩
  | exit id => exact ⟨.exit id, a, w, hq, fun k' hk => harr k' (by simp [exitTo, hk])⟩
  | goto l' =>
    unfold jumpTo at hq
    simp only at hq
    split at hq
    · rename_i e; subst e
      obtain ⟨e₂, a₂, w₂, hq₂, harr₂⟩ := hJ a w hq b k cs
      exact ⟨e₂, a₂, w₂, hq₂, .of_steps (harr _ hg) harr₂⟩
    · rename_i e
      exact ⟨.goto l', a, w, hq, fun k' hk => harr k' (by simp [gotoIn, hn l' e, hk])⟩
  | ret => exact ⟨_, a, w, hq, harr⟩
  | panic ch => exact ⟨_, a, w, hq, harr⟩
  | outgrown => exact ⟨_, a, w, hq, harr⟩
theorem scope_of {P : Program} {c : Code} {l : Nat} {a : Act} {w : World} {J : Act → World → Prop} {Q : Exit → Act → World → Prop} {rest : Code} (hf : findLabel c l = some rest) (hn : ∀ l', l' ≠ l → findLabel c l' = none)
    (hJ : ∀ a w, J a w → ScopeAt P c rest Q a w) (h : c.wp P (jumpTo l J Q) a w) : (Code.scope c).wp P Q a w := fun b k cs => by
  obtain ⟨e, a₁, w₁, hq, harr⟩ := h b (.inScope c :: k) cs
  obtain ⟨e₂, a₂, w₂, hq₂, harr₂⟩ := scope_jump hf hn hJ hq harr
  exact ⟨e₂, a₂, w₂, hq₂, .of_steps (.one step_scope) harr₂⟩
theorem scopeAt_of {P : Program} {c : Code} {l : Nat} {a : Act} {w : World} {J : Act → World → Prop} {Q : Exit → Act → World → Prop} {rest : Code} (hf : findLabel c l = some rest) (hn : ∀ l', l' ≠ l → findLabel c l' = none)
    (hJ : ∀ a w, J a w → ScopeAt P c rest Q a w) (h : rest.wp P (jumpTo l J Q) a w) : ScopeAt P c rest Q a w := fun b k cs => by
  obtain ⟨e, a₁, w₁, hq, harr⟩ := h b (.inScope c :: k) cs
  exact scope_jump hf hn hJ hq harr
theorem scope_plain {P : Program} {c : Code} {a : Act} {w : World} {Q : Exit → Act → World → Prop} (hn : ∀ l', findLabel c l' = none) (h : c.wp P Q a w) : (Code.scope c).wp P Q a w := fun b k cs => by
  obtain ⟨e, a₁, w₁, hq, harr⟩ := h b (.inScope c :: k) cs
  cases e with
  | normal => exact ⟨.normal, a₁, w₁, hq, .head step_scope (Steps.trans harr (.one step_inScope))⟩
  | exit id => exact ⟨.exit id, a₁, w₁, hq, fun k' hk => .head step_scope (harr k' (by simp [exitTo, hk]))⟩
  | goto l => exact ⟨.goto l, a₁, w₁, hq, fun k' hk => .head step_scope (harr k' (by simp [gotoIn, hn l, hk]))⟩
  | ret => exact ⟨_, a₁, w₁, hq, .of_steps (.one step_scope) harr⟩
  | panic ch => exact ⟨_, a₁, w₁, hq, .of_steps (.one step_scope) harr⟩
  | outgrown => exact ⟨_, a₁, w₁, hq, .of_steps (.one step_scope) harr⟩
section
variable {Y : Lay} {P : Program} {N : Nat}
theorem compT_find {l : Nat} : ∀ {c : Code} {r : DJ}, compT Y P N l c = some r → ∃ rest, findLabel c l = some rest
  | .seq a b, r, h => by
    simp only [compT] at h
    simp only [findLabel]
    split at h
    · rename_i x hx
      rw [hx]; exact ⟨_, rfl⟩
    · rename_i hx
      rw [hx]
      exact compT_find h
  | .label l', r, h => by
    simp only [compT] at h
    split at h
    · rename_i e; exact ⟨.skip, by simp [findLabel, e]⟩
    · cases h
  | .skip, _, h => by simp [compT] at h
  | .region .., _, h => by simp [compT] at h
  | .cond .., _, h => by simp [compT] at h
  | .block .., _, h => by simp [compT] at h
  | .loop .., _, h => by simp [compT] at h
  | .rangeFunc .., _, h => by simp [compT] at h
  | .exit .., _, h => by simp [compT] at h
  | .scope .., _, h => by simp [compT] at h
  | .goto .., _, h => by simp [compT] at h
  | .ret, _, h => by simp [compT] at h
  | .refuse .., _, h => by simp [compT] at h
end
theorem lpK_some {b : B} {c : T → List Pth → DJ → DJ → Nat → Option (Option Nat) → Ans} {r : RES} (h : lpK b c = some r) : ∃ t ps asg body st pend, b = .lp t ps asg body st pend ∧ c t ps asg body st pend = some r := by
  cases b <;> first | exact ⟨_, _, _, _, _, _, rfl, h⟩ | cases h
theorem fnB_some {s : S} (h : fnB s = true) : (∃ f cs, s = .fn f cs) ∨ ∃ f q r o, s = .fm f q r o := by
  cases s <;> first | exact .inl ⟨_, _, rfl⟩ | exact .inr ⟨_, _, _, _, rfl⟩ | cases h
section
variable {Y : Lay} {P : Program} {N M : Nat} {κ : KP} {cal : Cal} {n : Nat}
theorem rf_snd (hNM : N ≤ M) (HC : CalOk Y P κ cal) (hk : ∀ N c d, compC Y P N c = some d → d.smp = true → ∀ M, N ≤ M → κ.k M c d) {g : Operand} {ps : Array Tmp} {x y : Code} {g' : O} {asg body : DJ}
    (hg : compX Y g = some g') (hca : compC Y P N x = some asg) (hcb : compC Y P N y = some body) (hsa : asg.smp = true) (hsb : body.smp = true) (hps : ps.toList.all (fun p => decide (p < N)) = true)
    {ia ib : MD} {t : T} {h : Hp} {kn kr : KT} {kx : Nat → KT} {r : RES} (hr : d_rf g' (ps.toList.map Pth.of) asg body ia ib cal t h kn kr kx = some r)
    {e : Env} {a : Act} {w : World} (hκ : EK e κ) (hR : Rel e h w) (hG : Gl Y e (Pth.ok h.n.n)) (hS : TS P M e h t a) :
    (Code.rangeFunc g ps x y).wpIn (wd none) n P (QE P M kn kr kx r e h w) a w := by
  obtain ⟨hA, hhA⟩ : ∃ hA : Hp, hA = { h.push .dq with df := .mk h.n :: h.df } := ⟨_, rfl⟩
  have hr0 : rfK g' (ps.toList.map Pth.of) asg body cal t hA kn kr kx = some r := by
    have h1 : h.pushK .dq (fun h' => (Hp.casesOn h' fun b n er eq fz df ch => rfK g' (ps.toList.map Pth.of) asg body cal t (Hp.mk b n er eq fz (.mk h.n :: df) ch) kn kr kx : Ans)) = some r := hr
    rw [Hp.pushK_eq] at h1
    rw [hhA]; exact h1
  obtain ⟨hB, hhB⟩ : ∃ hB : Hp, hB = hA.push (.lp t (ps.toList.map Pth.of) asg body 0 none) := ⟨_, rfl⟩
  have hr1 : (asS (ev t g') fun s => onB (fnB s) (onO (cal s [.s (.yl hA.n)] hB) fun r => Prod.casesOn r fun _ h2 =>
    lpK (h2.gb hA.n) fun t' ps' asg' body' st pend => onB (Bool.not (Nat.beq st 1)) (h2.setK hA.n .dd fun h3 => Option.casesOn pend (kn t h3) fun e => Option.casesOn e (kr t h3) fun id => kx id t h3) none) none) = some r := by
    have h1 : hA.pushK (.lp t (ps.toList.map Pth.of) asg body 0 none) (fun h' => asS (ev t g') fun s => onB (fnB s) (onO (cal s [.s (.yl hA.n)] h') fun r => Prod.casesOn r fun _ h2 =>
    lpK (h2.gb hA.n) fun t' ps' asg' body' st pend => onB (Bool.not (Nat.beq st 1)) (h2.setK hA.n .dd fun h3 => Option.casesOn pend (kn t h3) fun e => Option.casesOn e (kr t h3) fun id => kx id t h3) none) none) = some r := hr0
    rw [Hp.pushK_eq] at h1
    rw [hhB]; exact h1
  obtain ⟨s, hs, hr2⟩ := asS_some hr1
  obtain ⟨hfn, hr3⟩ := onB_t hr2
  obtain ⟨⟨v, h2⟩, hcal, hr4⟩ := onO_some hr3
  obtain ⟨t', ps', asg', body', st', pend, hlp, hr5⟩ := lpK_some (show lpK (h2.gb hA.n) _ = some r from hr4)
  obtain ⟨hst, hr6⟩ := onB_t hr5
  rw [Hp.setK_eq] at hr6
  clear hr hr0 hr1 hr2 hr3 hr4 hr5
  have hAn : hA.n.n = h.n.n + 1 := by rw [hhA]; exact Hp.n_push h .dq
  have hBn : hB.n.n = hA.n.n + 1 := by rw [hhB]; exact Hp.n_push hA _
  refine wpIn_rangeFunc fun fn0 _ => ?_
  obtain ⟨L, hL⟩ : ∃ L : Loop, L = { state := .ready, pending := none, fn := fn0, tmps := a.tmps, params := ps, assign := x, body := y, defers := w.heap.size } := ⟨_, rfl⟩
  obtain ⟨w0, hw0⟩ : ∃ w0, w0 = w.alloc (.deferred (some [])) := ⟨_, rfl⟩
  obtain ⟨w1, hw1⟩ : ∃ w1, w1 = w0.alloc (.loop L) := ⟨_, rfl⟩
  have M0 := More.alloc w (.deferred (some []))
  rw [← hw0] at M0
  have M1 := More.alloc w0 (.loop L)
  rw [← hw1] at M1
  have hsz : w0.heap.size = w.heap.size + 1 := by rw [hw0]; simp
  have hs0 : w0.heap[w.heap.size]? = some (.deferred (some [])) := by rw [hw0]; exact World.alloc_heap_new w _
  have hs1 : w1.heap[w.heap.size + 1]? = some (.loop L) := by rw [hw1, ← hsz]; exact World.alloc_heap_new w0 _
  obtain ⟨e0, he0⟩ : ∃ e0, e0 = e.lay h.n (w.heap.size, 0) 0 := ⟨_, rfl⟩
  obtain ⟨e1, he1⟩ : ∃ e1, e1 = e0.lay hA.n (w.heap.size + 1, 0) 0 := ⟨_, rfl⟩
  have hσ0 : e0.σ h.n = (w.heap.size, 0) := by rw [he0]; exact lay_σ ..
  have hσ1 : e1.σ hA.n = (w.heap.size + 1, 0) := by rw [he1]; exact lay_σ ..
  have S0 : Step e h w e0 (h.push .dq) w0 := by
    rw [he0]
    refine Step.new hR (w.heap.size, 0) 0 ?_ rfl M0.old (Nat.le_refl _) (by omega) M0.os M0.tape M0.output
    show w0.heap[((e.lay h.n (w.heap.size, 0) 0).σ h.n).1]? = _
    rw [lay_σ]; exact hs0
  have S1 : Step e h w e0 hA w0 := S0.trans (by rw [hhA]; exact Step.df S0.rel rfl rfl rfl rfl rfl rfl)
  have hT0 : TR e0 t a.tmps := S1.agr.t hS.rf hS.tr
  have htA : t.rf (Pth.ok hA.n.n) = true := Tr.ok_mono S1.le hS.rf
  have A1 : Agr hA.n.n e0 e1 := by rw [he1]; exact lay_agr ..
  have S2 : Step e h w e1 hB w1 := by
    refine S1.trans ?_
    rw [he1, hhB]
    refine Step.new S1.rel (w.heap.size + 1, 0) 0 ?_ htA M1.old (by rw [hsz]; exact Nat.le_refl _) (by have := M1.size; omega) M1.os M1.tape M1.output
    have A2 := lay_agr e0 hA.n (w.heap.size + 1, 0) 0
    refine ⟨L, ?_, by rw [hL]; rfl, by rw [hL]; trivial, ?_, ?_, ?_, ?_, ?_⟩
    · rw [lay_σ]; exact hs1
    · rw [hL]; exact A2.t htA hT0
    · rw [hL]; simp [List.map_map, Function.comp_def, Pth.of_n]
    · rw [A2.κ, S1.agr.κ, hκ.1, hL, hS.size]; exact hk _ _ _ hca hsa _ hNM
    · rw [A2.κ, S1.agr.κ, hκ.1, hL, hS.size]; exact hk _ _ _ hcb hsb _ hNM
    · intro p hp
      obtain ⟨i, hi, rfl⟩ := List.mem_map.1 hp
      rw [Pth.of_n, hL, hS.size]
      have := List.all_eq_true.1 hps i hi
      exact Nat.lt_of_lt_of_le (by simpa using this) hNM
  have hG2 : Gl Y e1 (Pth.ok hB.n.n) := hG.step S2
  obtain ⟨v1, v2⟩ := ev_is (hS.ot hG fun _ => True) (x := g) trivial hg
  rw [hs] at v1 v2
  have hnu : nU s = true := by rcases fnB_some hfn with ⟨_, _, rfl⟩ | ⟨_, _, _, _, rfl⟩ <;> rfl
  have hsv : a.eval g = s.tr e := by
    rcases v2 with v2 | v2
    · cases v2
    · exact v2.eq hnu
  have hs1v : s.tr e1 = s.tr e := S2.agr.s (V.rf_s' v1 hnu)
  have hargs : Iss e1 [.s (.yl hA.n)] [.func (.yield (w.heap.size + 1)) #[] #[]] := by
    refine All2.cons (.inr (.inl ?_)) All2.nil
    simp only [V.tr, S.tr, hσ1]
  have HCs := HC s _ hB _ hcal e1 w1 _ (hκ.agr S2.agr) S2.rel hG2 (V.ok_mono S2.le v1) (by
    show ((Pth.ok hB.n.n hA.n) && true) = true
    rw [Bool.and_true, Pth.ok_iff]; omega) hargs
  have main : ∀ x' w3, Post e1 hB w1 (v, h2) x' w3 → rangePost (wd none) n P (w.heap.size + 1) (QE P M kn kr kx r e h w) { a with defers := markOf w.heap.size :: a.defers } (.returned x') w3 := fun x' w3 ⟨e', i1, i2, _, _⟩ => by
    have i2 : h2.df = hB.df := i2
    have hle : hB.n.n ≤ h2.n.n := i1.le
    have hlt : hA.n.n < h2.n.n := by omega
    have hat : h2.at hA.n = .lp t' ps' asg' body' st' pend := by rw [← Hp.gb_eq]; exact hlp
    have hok := i1.rel.ok hA.n hlt
    rw [hat] at hok
    obtain ⟨L', j1, j2, j3, _⟩ := hok
    have hσ' : e'.σ hA.n = (w.heap.size + 1, 0) := by rw [i1.agr.σ hA.n (by omega)]; exact hσ1
    rw [hσ'] at j1
    have j1 : w3.heap[w.heap.size + 1]? = some (.loop L') := j1
    have hne : L'.state ≠ .busy := by
      rw [j2]
      intro c
      match st', hst, c with
      | 0, _, c => cases c
      | 1, hst, _ => cases hst
      | 2, _, c => cases c
      | _ + 3, _, c => cases c
    obtain ⟨w4, hw4⟩ : ∃ w4, w4 = w3.putObj (w.heap.size + 1) (.loop { L' with state := .exhausted }) := ⟨_, rfl⟩
    refine ⟨L'.pending, w4, by rw [hw4]; exact run_endLoop j1 hne, ?_⟩
    have hl3 : w.heap.size + 1 < w3.heap.size := (Array.getElem?_eq_some_iff.1 j1).1
    have S3 : Step e' h2 w3 e' (h2.set hA.n .dd) w4 := by
      rw [hw4]
      exact Step.upd i1.rel hlt (by rw [hat]; rfl) trivial rfl rfl (fun b hb => World.putObj_heap_other (by rw [hσ'] at hb; exact hb)) (by simp) rfl rfl rfl
    have S4 := S2.trans (i1.trans S3)
    have hTS : TS P M e' (h2.set hA.n .dd) t { a with defers := markOf w.heap.size :: a.defers } := by
      refine hS.step S4 ?_
      have hdf : (h2.set hA.n .dd).df = .mk h.n :: h.df := by
        show h2.df = _
        rw [i2, hhB]
        show hA.df = _
        rw [hhA]
      rw [hdf]
      refine All2.cons ⟨?_, ?_⟩ (hS.df.agr S4.agr S4.le)
      · show h.n.n < h2.n.n; omega
      · rw [i1.agr.σ h.n (by omega), show e1.σ h.n = e0.σ h.n from A1.σ h.n (by omega), hσ0]
    have fin : ∀ (ex : Exit) (k : KT), kOf kn kr kx ex = some k → k t (h2.set hA.n .dd) = some r → QE P M kn kr kx r e h w ex { a with defers := markOf w.heap.size :: a.defers } w4 := fun ex k h1 h3 => by
      unfold QE
      rw [h1]
      exact ⟨e', _, t, S4, hTS, r, h3, .refl _ _⟩
    cases pend with
    | none =>
      cases hp : L'.pending with
      | none => exact fin .normal kn rfl hr6
      | some c => rw [hp] at j3; exact j3.elim
    | some p =>
      cases hp : L'.pending with
      | none => rw [hp] at j3; cases p <;> exact j3.elim
      | some c =>
        rw [hp] at j3
        cases p with
        | none =>
          cases c <;> first | exact j3.elim | skip
          exact wpIn_ret (fin .ret kr rfl hr6)
        | some id =>
          cases c <;> first | exact j3.elim | skip
          · rename_i id'
            have j3 : id = id' ∧ id < 1000000 := j3
            obtain ⟨rfl, j4⟩ := j3
            exact wpIn_exit (fin (.exit id) (kx id) (by simp only [kOf, if_pos j4]) hr6)
          · rename_i l
            have j3 : id = goId l := j3
            exact wpIn_goto (fin (.goto l) (kx id) (by simp only [kOf, j3]) hr6)
  have hcalls : ∀ (f : FuncId) (args : Array Value), Calls P f args w1 (ret (Post e1 hB w1 (v, h2))) → CallsIn (wd none) (n - 1) P f args w1 (rangePost (wd none) n P (w.heap.size + 1) (QE P M kn kr kx r e h w) { a with defers := [markOf w.heap.size] ++ a.defers }) := fun f args hc => by
    refine CallsIn.mono (F := wd none) ((callsIn_wide (n := n - 1)).2 hc) ?_
    rintro en w' ⟨x', rfl, hx⟩
    exact main x' w' hx
  have henter : (Instr.enterLoop fn0 a.tmps ps x y (wd none).round).run P w = .ok (w.heap.size + 1, [markOf w.heap.size]) w1 := by
    rw [hw1, hw0, hL]; exact run_enterLoop_outer _ _ _ _ _
  have hab : ∀ f' : FuncId, (wd none).fn f' := fun f' => wd_fn none f'
  rcases fnB_some hfn with ⟨f, cs, rfl⟩ | ⟨f, q, r', of, rfl⟩
  · obtain ⟨hok, hC⟩ := HCs
    have hsv : a.eval g = .func (.func f.n) #[] (cs.map fun x => Value.pointer (some (adr e1 x.1 x.2))).toArray := hsv.trans hs1v.symm
    refine ⟨w.heap.size + 1, [markOf w.heap.size], w1, { target := .fn (.func f.n) (cs.map fun x => Value.pointer (some (adr e1 x.1 x.2))).toArray, args := #[.func (.yield (w.heap.size + 1)) #[] #[]] }, w1, f.n, _, w1, henter, ?_, fun f' _ => hab f', ?_, fun hd => by simp [wd, Fence.wide] at hd, hcalls f.n _ hC⟩
    · simp only [resolve]
      rw [hsv]
      simp [Deferred.ofValue, Act.eval]
    · simp [invoke, callFunc_run hok]
  · obtain ⟨hok, hC⟩ := HCs
    have hsv : a.eval g = .func (.func f.n) #[if q then Value.agg #[.pointer (some (adr e1 r' of))] else .pointer (some (adr e1 r' of))] #[] := hsv.trans hs1v.symm
    refine ⟨w.heap.size + 1, [markOf w.heap.size], w1, { target := .fn (.func f.n) #[], args := #[if q then Value.agg #[.pointer (some (adr e1 r' of))] else .pointer (some (adr e1 r' of))] ++ #[.func (.yield (w.heap.size + 1)) #[] #[]] }, w1, f.n, _, w1, henter, ?_, fun f' _ => hab f', ?_, fun hd => by simp [wd, Fence.wide] at hd, hcalls f.n _ hC⟩
    · simp only [resolve]
      rw [hsv]
      simp [Deferred.ofValue, Act.eval]
    · simp [invoke, callFunc_run hok]
end
def DrwOk (Y : Lay) (P : Program) (N M : Nat) (κ : KP) (cal : Cal) (ro : Option Nat) (n : Nat) : Prop :=
  ∀ id ops gl d, compGs Y P N ops ops.toList = some gl → compDr ops gl = some d → (ro = none ∨ d.smp = true) → ∀ (t : T) (h : Hp) (kn kr : KT) (kx : Nat → KT) (r : RES), exD d cal t h kn kr kx = some r →
    ∀ (e : Env) (a : Act) (w : World), EK e κ → Rel e h w → Gl Y e (Pth.ok h.n.n) → TS P M e h t a → (Code.region id ops true).wpIn (wd ro) n P (QE P M kn kr kx r e h w) a w
section
variable {Y : Lay} {P : Program} {N M : Nat} {κ : KP} {cal : Cal} {n : Nat}
theorem QE.of {kn kr : KT} {kx : Nat → KT} {r r' : RES} {e e' : Env} {h h' : Hp} {w w' : World} {ex : Exit} {k : KT} {t' : T} {a : Act} (hk : kOf kn kr kx ex = some k) (S : Step e h w e' h' w') (T : TS P M e' h' t' a) (hr : k t' h' = some r') (hl : Lk h r r') : QE P M kn kr kx r e h w ex a w' := by
  unfold QE; rw [hk]; exact ⟨e', h', t', S, T, r', hr, hl⟩
theorem QE.out {kn kr : KT} {kx : Nat → KT} {r : RES} {e : Env} {h : Hp} {w w' : World} {ex : Exit} {a : Act} (hq : QE P M kn kr kx r e h w ex a w') : ∃ k, kOf kn kr kx ex = some k ∧ ∃ e' h' t', Step e h w e' h' w' ∧ TS P M e' h' t' a ∧ ∃ r', k t' h' = some r' ∧ Lk h r r' := by
  unfold QE at hq
  split at hq
  · rename_i k hk; exact ⟨k, hk, hq⟩
  · exact hq.elim
theorem loopK_zero (f : KT → KT) (t : T) (h : Hp) : loopK f 0 t h = none := rfl
theorem loopK_succ (f : KT → KT) (n : Nat) (t : T) (h : Hp) : loopK f (n + 1) t h = f (loopK f n) t h := rfl
structure St0 (Y : Lay) (P : Program) (M : Nat) (κ : KP) (e : Env) (h : Hp) (t : T) (a : Act) (w : World) : Prop where
  κ : EK e κ
  rel : Rel e h w
  gl : Gl Y e (Pth.ok h.n.n)
  ts : TS P M e h t a
theorem St0.step {e e' : Env} {h h' : Hp} {t t' : T} {a a' : Act} {w w' : World} (S : St0 Y P M κ e h t a w) (H : Step e h w e' h' w') (T : TS P M e' h' t' a') : St0 Y P M κ e' h' t' a' w' :=
  ⟨S.κ.agr H.agr, H.rel, S.gl.step H, T⟩
mutual
theorem exD_snd (hNM : N ≤ M) (HC : CalOk Y P κ cal) (hk : ∀ N c d, compC Y P N c = some d → d.smp = true → ∀ M, N ≤ M → κ.k M c d) : ∀ (c : Code) (d : DJ), compC Y P N c = some d → ∀ (ro : Option Nat), DrwOk Y P N M κ cal ro n → (ro = none ∨ d.smp = true) →
    ∀ (t : T) (h : Hp) (kn kr : KT) (kx : Nat → KT) (r : RES), exD d cal t h kn kr kx = some r → ∀ (e : Env) (a : Act) (w : World), St0 Y P M κ e h t a w → c.wpIn (wd ro) n P (QE P M kn kr kx r e h w) a w
  | .skip, d, hc, ro, HD, hs, t, h, kn, kr, kx, r, hr, e, a, w, S => by
    simp only [compC, Option.some.injEq] at hc; subst hc
    exact wpIn_skip (QE.of rfl (.refl S.rel) S.ts hr (.refl _ _))
  | .region id ops false, d, hc, ro, HD, hs, t, h, kn, kr, kx, r, hr, e, a, w, S => by
    simp only [compC] at hc
    cases hg : compGs Y P N ops ops.toList with
    | none => simp [hg] at hc
    | some gl =>
      simp only [hg, Option.map_some, Option.some.injEq] at hc
      subst hc
      exact wpIn_region_list (exL_snd hNM HC ops.toList gl hg hs t h kn r hr e a w S.κ S.rel S.gl S.ts fun e' h' t' a' w' i1 i2 ⟨r', i3, i4⟩ => QE.of rfl i1 i2 i3 i4)
  | .region id ops true, d, hc, ro, HD, hs, t, h, kn, kr, kx, r, hr, e, a, w, S => by
    simp only [compC] at hc
    cases hg : compGs Y P N ops ops.toList with
    | none => simp [hg] at hc
    | some gl =>
      simp only [hg] at hc
      exact HD id ops gl d hg hc hs t h kn kr kx r hr e a w S.κ S.rel S.gl S.ts
  | .seq x y, d, hc, ro, HD, hs, t, h, kn, kr, kx, r, hr, e, a, w, S => by
    simp only [compC] at hc
    split at hc
    · rename_i d1 d2 h1 h2
      cases hc
      have hs1 : ro = none ∨ d1.smp = true := hs.imp id fun h => by simp only [DJ.smp, Bool.and_eq_true] at h; exact h.1
      have hs2 : ro = none ∨ d2.smp = true := hs.imp id fun h => by simp only [DJ.smp, Bool.and_eq_true] at h; exact h.2
      have hr : exD d1 cal t h (fun t h => exD d2 cal t h kn kr kx) kr kx = some r := hr
      refine wpIn_seq (wpIn_mono (exD_snd hNM HC hk x d1 h1 ro HD hs1 t h _ kr kx r hr e a w S) ?_)
      intro ex a' w' hq
      cases ex with
      | normal =>
        obtain ⟨k, hk1, e', h', t', i1, i2, r', i3, i4⟩ := hq.out
        cases hk1
        exact wpIn_mono (exD_snd hNM HC hk y d2 h2 ro HD hs2 t' h' kn kr kx r' i3 e' a' w' (S.step i1 i2)) fun ex a2 w2 hq2 => hq2.step i1 i4
      | exit id => exact hq
      | goto l => exact hq
      | ret => exact hq
      | panic c => exact hq
      | outgrown => exact hq
    · cases hc
  | .cond c x y, d, hc, ro, HD, hs, t, h, kn, kr, kx, r, hr, e, a, w, S => by
    simp only [compC] at hc
    split at hc
    · rename_i c' d1 d2 h0 h1 h2
      cases hc
      have hs1 : ro = none ∨ d1.smp = true := hs.imp id fun h => by simp only [DJ.smp, Bool.and_eq_true] at h; exact h.1
      have hs2 : ro = none ∨ d2.smp = true := hs.imp id fun h => by simp only [DJ.smp, Bool.and_eq_true] at h; exact h.2
      obtain ⟨q, hq, hr⟩ := asB_some (show asB (ev t c') (fun q => Bool.casesOn q (exD d2 cal t h kn kr kx) (exD d1 cal t h kn kr kx)) = some r from hr)
      obtain ⟨e1, _⟩ := ev_eq (S.ts.ot S.gl fun _ => True) (x := c) trivial h0 hq (by simp) rfl
      refine wpIn_cond e1 ?_
      cases q
      · exact exD_snd hNM HC hk y d2 h2 ro HD hs2 t h kn kr kx r hr e a w S
      · exact exD_snd hNM HC hk x d1 h1 ro HD hs1 t h kn kr kx r hr e a w S
    · cases hc
  | .block id x, d, hc, ro, HD, hs, t, h, kn, kr, kx, r, hr, e, a, w, S => by
    simp only [compC] at hc
    split at hc
    rotate_left
    · cases hc
    rename_i hid
    cases h1 : compC Y P N x with
    | none => simp [h1] at hc
    | some d1 =>
      simp only [h1, Option.map_some, Option.some.injEq] at hc
      subst hc
      have hs1 : ro = none ∨ d1.smp = true := hs.imp (fun h => h) fun h => by simp only [DJ.smp, Bool.and_eq_true] at h; exact h.2
      have hr : exD d1 cal t h kn kr (fun j t h => Bool.casesOn (Nat.beq j id) (kx j t h) (kn t h)) = some r := hr
      refine wpIn_block (wpIn_mono (exD_snd hNM HC hk x d1 h1 ro HD hs1 t h kn kr _ r hr e a w S) ?_)
      intro ex a' w' hq
      obtain ⟨k, hk1, e', h', t', i1, i2, r', i3, i4⟩ := hq.out
      cases ex with
      | normal => cases hk1; exact QE.of (kn := kn) (kr := kr) (kx := kx) (ex := .normal) rfl i1 i2 i3 i4
      | exit j =>
        simp only [kOf] at hk1
        split at hk1
        · rename_i hj
          cases hk1
          simp only [Exit.inBlock]
          by_cases hji : j = id
          · rw [if_pos hji]
            have hb : Nat.beq j id = true := by rw [hji]; simp
            simp only [hb] at i3
            exact QE.of (ex := .normal) rfl i1 i2 i3 i4
          · rw [if_neg hji]
            have hb : Nat.beq j id = false := by
              cases hb : Nat.beq j id with
              | false => rfl
              | true => exact absurd (nat_eq hb) hji
            simp only [hb] at i3
            exact QE.of (k := kx j) (by simp only [kOf, if_pos hj]) i1 i2 i3 i4
        · cases hk1
      | goto l =>
        simp only [kOf, Option.some.injEq] at hk1
        subst hk1
        simp only [Exit.inBlock]
        have hb : Nat.beq (goId l) id = false := by
          cases hb : Nat.beq (goId l) id with
          | false => rfl
          | true => have := nat_eq hb; unfold goId at this; omega
        simp only [hb] at i3
        exact QE.of (k := kx (goId l)) rfl i1 i2 i3 i4
      | ret => cases hk1; exact QE.of (kn := kn) (kr := kr) (kx := kx) (ex := .ret) rfl i1 i2 i3 i4
      | panic c => cases hk1
      | outgrown => cases hk1
  | .loop x, d, hc, ro, HD, hs, t, h, kn, kr, kx, r, hr, e, a, w, S => by
    simp only [compC] at hc
    cases h1 : compC Y P N x with
    | none => simp [h1] at hc
    | some d1 =>
      simp only [h1, Option.map_some, Option.some.injEq] at hc
      subst hc
      have hs1 : ro = none ∨ d1.smp = true := hs
      refine loopR_of_at ?_
      have key : ∀ (m : Nat) (t : T) (h : Hp) (r : RES), loopK (fun X t h => exD d1 cal t h X kr kx) m t h = some r → ∀ (e : Env) (a : Act) (w : World), St0 Y P M κ e h t a w → LoopR ro P x (QE P M kn kr kx r e h w) a w := by
        intro m
        induction m with
        | zero => intro t h r hr; cases hr
        | succ m ih =>
          intro t h r hr e a w S
          rw [loopK_succ] at hr
          refine atR_of_round (n := n) (wpIn_mono (exD_snd hNM HC hk x d1 h1 ro HD hs1 t h _ kr kx r hr e a w S) ?_)
          intro ex a' w' hq
          cases ex with
          | normal =>
            obtain ⟨k, hk1, e', h', t', i1, i2, r', i3, i4⟩ := hq.out
            cases hk1
            intro b k cs hb
            obtain ⟨ex, a2, w2, j1, j2⟩ := ih t' h' r' i3 e' a' w' (S.step i1 i2) b k cs hb
            exact ⟨ex, a2, w2, j1.step i1 i4, j2⟩
          | exit id => exact hq
          | goto l => exact hq
          | ret => exact hq
          | panic c => exact hq
          | outgrown => exact hq
      exact key fuelL t h r hr e a w S
  | .exit id, d, hc, ro, HD, hs, t, h, kn, kr, kx, r, hr, e, a, w, S => by
    simp only [compC] at hc
    split at hc
    · rename_i hlt
      cases hc
      exact wpIn_exit (QE.of (k := kx id) (by simp only [kOf, if_pos hlt]) (.refl S.rel) S.ts hr (.refl _ _))
    · cases hc
  | .label l, d, hc, ro, HD, hs, t, h, kn, kr, kx, r, hr, e, a, w, S => by
    simp only [compC, Option.some.injEq] at hc; subst hc
    exact wpIn_label (QE.of rfl (.refl S.rel) S.ts hr (.refl _ _))
  | .goto l, d, hc, ro, HD, hs, t, h, kn, kr, kx, r, hr, e, a, w, S => by
    simp only [compC, Option.some.injEq] at hc; subst hc
    exact wpIn_goto (QE.of (k := kx (goId l)) rfl (.refl S.rel) S.ts hr (.refl _ _))
  | .ret, d, hc, ro, HD, hs, t, h, kn, kr, kx, r, hr, e, a, w, S => by
    simp only [compC, Option.some.injEq] at hc; subst hc
    exact wpIn_ret (QE.of (k := kr) rfl (.refl S.rel) S.ts hr (.refl _ _))
  | .scope x, d, hc, ro, HD, hs, t, h, kn, kr, kx, r, hr, e, a, w, S => by
    simp only [compC] at hc
    split at hc
    · rename_i hl
      exact scopeIn_plain (fun l' => findLabel_not (by rw [hl]; simp)) (exD_snd hNM HC hk x d hc ro HD hs t h kn kr kx r hr e a w S)
    · rename_i l hl
      split at hc
      · rename_i d1 r1 h1 h2
        cases hc
        have hro : ro = none := by
          rcases hs with hs | hs
          · exact hs
          · simp only [DJ.smp, Bool.and_eq_true, decide_eq_true_eq] at hs
            have := hs.1
            unfold outId at this; omega
        subst hro
        obtain ⟨rest, hf⟩ := compT_find h2
        have hn : ∀ l', l' ≠ l → findLabel x l' = none := fun l' e => findLabel_not (by rw [hl]; simpa using e)
        have hbf : ∀ {a b : Nat}, a ≠ b → Nat.beq a b = false := fun {a b} hne => by
          cases hb : Nat.beq a b with
          | false => rfl
          | true => exact absurd (nat_eq hb) hne
        have ne : outId l ≠ goId l := by unfold outId goId; omega
        obtain ⟨kx1, hx1⟩ : ∃ kx1 : Nat → KT, kx1 = fun j t h => Bool.casesOn (Nat.beq j (outId l)) (kx j t h) (kn t h) := ⟨_, rfl⟩
        obtain ⟨LP, hLP⟩ : ∃ LP : Nat → KT, LP = loopK (fun X t h => exD (.block (goId l) (.seq r1 (.exit (outId l)))) cal t h X kr kx1) := ⟨_, rfl⟩
        have x1o : ∀ t h, kx1 (outId l) t h = kn t h := fun t h => by
          have hb : Nat.beq (outId l) (outId l) = true := by simp
          rw [hx1]; simp only [hb]
        have x1n : ∀ j t h, j ≠ outId l → kx1 j t h = kx j t h := fun j t h hj => by rw [hx1]; simp only [hbf hj]
        obtain ⟨kx2, hx2⟩ : ∃ kx2 : KT → Nat → KT, kx2 = fun X j t h => Bool.casesOn (Nat.beq j (goId l)) (kx1 j t h) (X t h) := ⟨_, rfl⟩
        have x2g : ∀ X t h, kx2 X (goId l) t h = X t h := fun X t h => by
          have hb : Nat.beq (goId l) (goId l) = true := by simp
          rw [hx2]; simp only [hb]
        have x2o : ∀ X t h, kx2 X (outId l) t h = kn t h := fun X t h => by rw [hx2]; simp only [hbf ne]; exact x1o t h
        have x2n : ∀ X j t h, j ≠ goId l → j ≠ outId l → kx2 X j t h = kx j t h := fun X j t h i1 i2 => by rw [hx2]; simp only [hbf i1]; exact x1n j t h i2
        have hr0 : exD d1 cal t h (kx2 (LP fuelL) (outId l)) kr (kx2 (LP fuelL)) = some r := by
          rw [hx2, hLP, hx1]; exact hr
        have LPs : ∀ m t h, LP (m + 1) t h = exD r1 cal t h (kx2 (LP m) (outId l)) kr (kx2 (LP m)) := fun m t h => by
          rw [hx2, hLP]; rfl
        have LP0 : ∀ t h, LP 0 t h = none := fun t h => by rw [hLP]; rfl
        have hends : ∀ (X : KT) (J : Act → World → Prop) (e : Env) (h : Hp) (w : World) (r : RES), (∀ t' h' r', X t' h' = some r' → ∀ e' a' w', Step e h w e' h' w' → TS P M e' h' t' a' → Lk h r r' → J a' w') →
            ∀ ex a' w', QE P M (kx2 X (outId l)) kr (kx2 X) r e h w ex a' w' → jumpTo l J (QE P M kn kr kx r e h w) ex a' w' := by
          intro X J e h w r hJ ex a' w' hq
          obtain ⟨k, hk1, e', h', t', i1, i2, r', i3, i4⟩ := hq.out
          cases ex with
          | normal => cases hk1; rw [x2o] at i3; exact QE.of (kn := kn) (kr := kr) (kx := kx) (ex := .normal) rfl i1 i2 i3 i4
          | exit j =>
            simp only [kOf] at hk1
            split at hk1
            · rename_i hj
              cases hk1
              rw [x2n X j t' h' (by unfold goId; omega) (by unfold outId; omega)] at i3
              exact QE.of (ex := .exit j) (k := kx j) (by simp only [kOf, if_pos hj]) i1 i2 i3 i4
            · cases hk1
          | goto l' =>
            cases hk1
            simp only [jumpTo]
            split
            · rename_i el; subst el
              rw [x2g] at i3
              exact hJ t' h' r' i3 e' a' w' i1 i2 i4
            · rename_i el
              rw [x2n X _ t' h' (by unfold goId; omega) (by unfold goId outId; omega)] at i3
              exact QE.of (ex := .goto l') (k := kx (goId l')) rfl i1 i2 i3 i4
          | ret => cases hk1; exact QE.of (kn := kn) (kr := kr) (kx := kx) (ex := .ret) rfl i1 i2 i3 i4
          | panic c => cases hk1
          | outgrown => cases hk1
        have loop : ∀ (m : Nat) (t : T) (h : Hp) (r : RES), LP m t h = some r → ∀ (e : Env) (a : Act) (w : World), St0 Y P M κ e h t a w → ScopeAt P x rest (QE P M kn kr kx r e h w) a w := by
          intro m
          induction m with
          | zero => intro t h r hr; rw [LP0] at hr; cases hr
          | succ m ih =>
            intro t h r hr e a w S
            rw [LPs] at hr
            refine scopeAt_of (J := fun a' w' => ScopeAt P x rest (QE P M kn kr kx r e h w) a' w') hf hn (fun _ _ h => h) (wp_mono ((wpIn_wide (n := n)).1 (exT_snd hNM HC hk x l r1 h2 none HD rfl rest hf t h _ kr _ r hr e a w S)) ?_)
            refine hends (LP m) _ e h w r ?_
            intro t' h' r' j1 e' a' w' j2 j3 j4 b k cs
            obtain ⟨ex, a2, w2, q1, q2⟩ := ih t' h' r' j1 e' a' w' (S.step j2 j3) b k cs
            exact ⟨ex, a2, w2, q1.step j2 j4, q2⟩
        refine (wpIn_wide (n := n)).2 ?_
        refine scope_of (J := fun a' w' => ScopeAt P x rest (QE P M kn kr kx r e h w) a' w') hf hn (fun _ _ h => h) (wp_mono ((wpIn_wide (n := n)).1 (exD_snd hNM HC hk x d1 h1 none HD (.inl rfl) t h _ kr _ r hr0 e a w S)) ?_)
        refine hends (LP fuelL) _ e h w r ?_
        intro t' h' r' j1 e' a' w' j2 j3 j4 b k cs
        obtain ⟨ex, a2, w2, q1, q2⟩ := loop fuelL t' h' r' j1 e' a' w' (S.step j2 j3) b k cs
        exact ⟨ex, a2, w2, q1.step j2 j4, q2⟩
      · cases hc
    · cases hc
  | .rangeFunc g ps x y, d, hc, ro, HD, hs, t, h, kn, kr, kx, r, hr, e, a, w, S => by
    simp only [compC] at hc
    split at hc
    · rename_i g' da db hg hca hcb
      split at hc
      · rename_i hb
        cases hc
        have hro : ro = none := by
          rcases hs with hs | hs
          · exact hs
          · cases hs
        subst hro
        simp only [Bool.and_eq_true] at hb
        exact rf_snd (ia := fun _ _ _ _ _ _ => none) (ib := fun _ _ _ _ _ _ => none) hNM HC hk hg hca hcb hb.1.1 hb.1.2 hb.2 hr S.κ S.rel S.gl S.ts
      · cases hc
    · cases hc
  | .refuse _, d, hc, ro, HD, hs, t, h, kn, kr, kx, r, hr, e, a, w, S => by simp [compC] at hc
theorem exT_snd (hNM : N ≤ M) (HC : CalOk Y P κ cal) (hk : ∀ N c d, compC Y P N c = some d → d.smp = true → ∀ M, N ≤ M → κ.k M c d) : ∀ (c : Code) (l : Nat) (d : DJ), compT Y P N l c = some d → ∀ (ro : Option Nat), DrwOk Y P N M κ cal ro n → ro = none → ∀ rest, findLabel c l = some rest →
    ∀ (t : T) (h : Hp) (kn kr : KT) (kx : Nat → KT) (r : RES), exD d cal t h kn kr kx = some r → ∀ (e : Env) (a : Act) (w : World), St0 Y P M κ e h t a w → rest.wpIn (wd ro) n P (QE P M kn kr kx r e h w) a w
  | .seq x y, l, d, hc, ro, HD, hro, rest, hf, t, h, kn, kr, kx, r, hr, e, a, w, S => by
    simp only [compT] at hc
    simp only [findLabel] at hf
    split at hc
    · rename_i rx hx
      rw [hx] at hf
      simp only [Option.some.injEq] at hf
      subst hf
      split at hc
      · rename_i d1 d2 ht h2
        cases hc
        have hr : exD d1 cal t h (fun t h => exD d2 cal t h kn kr kx) kr kx = some r := hr
        refine wpIn_seq (wpIn_mono (exT_snd hNM HC hk x l d1 ht ro HD hro rx hx t h _ kr kx r hr e a w S) ?_)
        intro ex a' w' hq
        cases ex with
        | normal =>
          obtain ⟨k, hk1, e', h', t', i1, i2, r', i3, i4⟩ := hq.out
          cases hk1
          exact wpIn_mono (exD_snd hNM HC hk y d2 h2 ro HD (.inl hro) t' h' kn kr kx r' i3 e' a' w' (S.step i1 i2)) fun ex a2 w2 hq2 => hq2.step i1 i4
        | exit id => exact hq
        | goto l => exact hq
        | ret => exact hq
        | panic c => exact hq
        | outgrown => exact hq
      · cases hc
    · rename_i hx
      rw [hx] at hf
      exact exT_snd hNM HC hk y l d hc ro HD hro rest hf t h kn kr kx r hr e a w S
  | .label l', l, d, hc, ro, HD, hro, rest, hf, t, h, kn, kr, kx, r, hr, e, a, w, S => by
    simp only [compT] at hc
    simp only [findLabel] at hf
    split at hc
    · rename_i el
      cases hc
      rw [if_pos (by simpa using el)] at hf
      cases hf
      exact wpIn_skip (QE.of rfl (.refl S.rel) S.ts hr (.refl _ _))
    · cases hc
  | .skip, _, _, h, _, _, _, _, _, _, _, _, _, _, _, _, _, _, _, _ => by simp [compT] at h
  | .region .., _, _, h, _, _, _, _, _, _, _, _, _, _, _, _, _, _, _, _ => by simp [compT] at h
  | .cond .., _, _, h, _, _, _, _, _, _, _, _, _, _, _, _, _, _, _, _ => by simp [compT] at h
  | .block .., _, _, h, _, _, _, _, _, _, _, _, _, _, _, _, _, _, _, _ => by simp [compT] at h
  | .loop .., _, _, h, _, _, _, _, _, _, _, _, _, _, _, _, _, _, _, _ => by simp [compT] at h
  | .rangeFunc .., _, _, h, _, _, _, _, _, _, _, _, _, _, _, _, _, _, _, _ => by simp [compT] at h
  | .exit .., _, _, h, _, _, _, _, _, _, _, _, _, _, _, _, _, _, _, _ => by simp [compT] at h
  | .scope .., _, _, h, _, _, _, _, _, _, _, _, _, _, _, _, _, _, _, _ => by simp [compT] at h
  | .goto .., _, _, h, _, _, _, _, _, _, _, _, _, _, _, _, _, _, _, _ => by simp [compT] at h
  | .ret, _, _, h, _, _, _, _, _, _, _, _, _, _, _, _, _, _, _, _ => by simp [compT] at h
  | .refuse .., _, _, h, _, _, _, _, _, _, _, _, _, _, _, _, _, _, _, _ => by simp [compT] at h
end
end
end Go.E
