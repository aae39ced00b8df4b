/- A part of the proof of the claim that the last text of this folder states. -/
import Derived.Laws.IdiomRangeMap
import Derived.ChangeMaps5
import Derived.Maps.RangeRun
import Derived.MapKept
import Derived.WideKeyRuns
import Derived.Test.YtebgbhgehnpahaaGreatDoorP03
namespace Go.E
set_option linter.all false
def sub (xs : List S) (o n : Nat) : List S := (xs.drop o).take n
theorem sub_get {xs : List S} {o n i : Nat} (hi : i < n) : (sub xs o n)[i]? = xs[o + i]? := by
  simp [sub, List.getElem?_take, List.getElem?_drop, hi]
theorem sub_length {xs : List S} {o n : Nat} (h : o + n ≤ xs.length) : (sub xs o n).length = n := by
  simp [sub]; omega
theorem sub_split (xs : List S) (o n m : Nat) : sub xs o (n + m) = sub xs o n ++ sub xs (o + n) m := by
  simp only [sub]
  rw [List.take_add, List.drop_drop]
theorem sub_all {xs : List S} {n : Nat} (h : xs.length = n) : sub xs 0 n = xs := by
  subst h; simp [sub]
theorem cmpSs_cons {k : Bool} {ks : List Bool} {x y : S} {a b : List S} (h : cmpSs (k :: ks) (x :: a) (y :: b) = true) :
    ((k = true ∧ ∃ j m n, x = .i j m ∧ y = .i j n) ∨ (k = false ∧ ∃ p q, x = .b p ∧ y = .b q)) ∧ cmpSs ks a b = true := by
  have h := and_t (b := cmpSs ks a b) h
  refine ⟨?_, h.2⟩
  have h := h.1
  cases x <;> first | (cases h; done) | skip
  · cases k
    · cases y <;> first | (cases h; done) | exact .inr ⟨rfl, _, _, rfl, rfl⟩
    · cases h
  · cases k
    · cases h
    · cases y <;> first | (cases h; done) | skip
      obtain rfl := kEq_t h
      exact .inl ⟨rfl, _, _, _, rfl, rfl⟩
theorem cmpSs_length : ∀ {ks : List Bool} {a b : List S}, cmpSs ks a b = true → a.length = ks.length ∧ b.length = ks.length
  | [], [], [], _ => ⟨rfl, rfl⟩
  | k :: ks, x :: a, y :: b, h => by
    have := cmpSs_length (cmpSs_cons h).2
    simp [this.1, this.2]
  | [], [], _ :: _, h => by cases h
  | [], _ :: _, _, h => by cases h
  | _ :: _, [], _, h => by cases h
  | _ :: _, _ :: _, [], h => by cases h
theorem cmpSs_append : ∀ (ks js : List Bool) (a b c d : List S), a.length = ks.length → c.length = ks.length → cmpSs (ks ++ js) (a ++ b) (c ++ d) = true → cmpSs ks a c = true ∧ cmpSs js b d = true
  | [], js, [], b, [], d, _, _, h => ⟨rfl, h⟩
  | k :: ks, js, x :: a, b, y :: c, d, h, h', hc => by
    have h1 := and_t (b := cmpSs (ks ++ js) (a ++ b) (c ++ d)) hc
    have h2 := cmpSs_append ks js a b c d (by simpa using h) (by simpa using h') h1.2
    refine ⟨?_, h2.2⟩
    have h3 := h1.1
    show and _ (cmpSs ks a c) = true
    rw [h2.1, Bool.and_true]
    exact h3
  | [], _, _ :: _, _, _, _, h, _, _ => by simp at h
  | [], _, [], _, _ :: _, _, _, h, _ => by simp at h
  | _ :: _, _, [], _, _, _, h, _, _ => by simp at h
  | _ :: _, _, _ :: _, _, [], _, _, h, _ => by simp at h
theorem eqSs_cons {x y : S} {a b : List S} {q : Bool} (h : eqSs (x :: a) (y :: b) = some q) : ∃ p r, eqS1 x y = some p ∧ eqSs a b = some r ∧ q = (p && r) := by
  obtain ⟨p, h1, h⟩ := onO_some (show onO (eqS1 x y) (fun p => onO (eqSs a b) fun q => some (and p q)) = some q from h)
  obtain ⟨r, h2, h⟩ := onO_some h
  exact ⟨p, r, h1, h2, (Option.some.inj h).symm⟩
theorem eqSs_append : ∀ (a b c d : List S) (q : Bool), a.length = c.length → eqSs (a ++ b) (c ++ d) = some q → ∃ p r, eqSs a c = some p ∧ eqSs b d = some r ∧ q = (p && r)
  | [], b, [], d, q, _, h => ⟨true, q, rfl, h, by simp⟩
  | x :: a, b, y :: c, d, q, hl, h => by
    obtain ⟨p, r, h1, h2, rfl⟩ := eqSs_cons (show eqSs (x :: (a ++ b)) (y :: (c ++ d)) = some q from h)
    obtain ⟨p', r', i1, i2, rfl⟩ := eqSs_append a b c d r (by simpa using hl) h2
    refine ⟨p && p', r', ?_, i2, by rw [Bool.and_assoc]⟩
    show onO (eqS1 x y) (fun p => onO (eqSs a c) fun q => some (and p q)) = _
    rw [h1, e_o, i1, e_o]
  | [], _, _ :: _, _, _, h, _ => by simp at h
  | _ :: _, _, [], _, _, h, _ => by simp at h
noncomputable def repr (e : Env) (n : Option Nat) (xs : List S) : Value :=
  match n with
  | none => (xs.headD .np).tr e
  | some _ => .agg (trs e xs)
section
variable {Y : Lay} {P : Program} {o : Oper}
theorem flat_shape {d : Nat} {T : TypeId} {l : List Bool} (h : flat P d T = some l) : ∃ m, shapeOf P T = some m ∧ (m = none → l.length = 1) ∧ (∀ k, m = some k → k = l.length) ∧ P.cellsOf T = l.length := by
  cases d with
  | zero => simp [flat] at h
  | succ d =>
    unfold flat at h
    split at h
    · rename_i i k hi hu
      split at h
      · rename_i hs; cases h; exact ⟨none, by simp [shapeOf, hi, hu], fun _ => rfl, (fun k hk => by cases hk), by simp [Program.cellsOf, hi, hs]⟩
      · cases h
    · rename_i i hi hu
      split at h
      · rename_i hs; cases h; exact ⟨none, by simp [shapeOf, hi, hu], fun _ => rfl, (fun k hk => by cases hk), by simp [Program.cellsOf, hi, hs]⟩
      · cases h
    · rename_i i fs hi hu
      split at h
      · cases h
      · split at h
        · rename_i m hm
          split at h
          · rename_i he; cases h; exact ⟨some i.size, by simp [shapeOf, hi, hu], (fun hk => by cases hk), (fun k hk => by cases hk; exact he), by simp [Program.cellsOf, hi, he]⟩
          · cases h
        · cases h
    · rename_i i a e hi hu
      split at h
      · rename_i m hm
        split at h
        · rename_i he; cases h; exact ⟨some i.size, by simp [shapeOf, hi, hu], (fun hk => by cases hk), (fun k hk => by cases hk; exact he), by simp [Program.cellsOf, hi, he]⟩
        · cases h
      · cases h
    · cases h
theorem run_part_flat {d : Nat} {T : TypeId} {l : List Bool} (hf : flat P d T = some l) (w : World) (e : Env) (xs : List S) (off : Nat) (hlen : off + l.length ≤ xs.length) :
    ∃ m, shapeOf P T = some m ∧ (part T (trs e xs) off).run P w = .ok (repr e m (sub xs off l.length)) w := by
  obtain ⟨m, hm, h1, h2, _⟩ := flat_shape hf
  refine ⟨m, hm, ?_⟩
  cases m with
  | none =>
    have hl := h1 rfl
    rw [hl] at hlen ⊢
    have hg : xs[off]? = some (xs[off]'(by omega)) := List.getElem?_eq_getElem (by omega)
    rw [run_part_none w hm e xs off hg]
    have : sub xs off 1 = [xs[off]'(by omega)] := by
      apply List.ext_getElem?
      intro i
      by_cases hi : i < 1
      · rw [sub_get hi]; obtain rfl : i = 0 := by omega
        simp [hg]
      · rw [List.getElem?_eq_none (by rw [sub_length hlen]; omega), List.getElem?_eq_none (by simp; omega)]
    simp [repr, this]
  | some k =>
    obtain rfl := h2 k rfl
    simp [repr, run_part_some w hm e xs off, sub]
def EqFlat (P : Program) (d : Nat) : Prop := ∀ (T : TypeId) (l : List Bool) (m : Option Nat) (D : Nat) (w : World) (e : Env) (xs ys : List S) (q : Bool), flat P d T = some l → shapeOf P T = some m → d ≤ D →
  cmpSs l xs ys = true → eqSs xs ys = some q → (Op.equalIn D T (repr e m xs) (repr e m ys)).run P w = .ok q w
theorem eqFields_flat {d : Nat} (IH : EqFlat P d) {D : Nat} (hD : d ≤ D) (w : World) (e : Env) (xs ys : List S) : ∀ (fs : List Field) (o : Nat) (l : List Bool) (q : Bool), flatFs (flat P d) fs o = some l → o + l.length ≤ xs.length → o + l.length ≤ ys.length →
    cmpSs l (sub xs o l.length) (sub ys o l.length) = true → eqSs (sub xs o l.length) (sub ys o l.length) = some q → (Op.eqFields D (trs e xs) (trs e ys) fs).run P w = .ok q w
  | [], o, l, q, hf, _, _, _, hq => by
    simp only [flatFs, Option.some.injEq] at hf
    subst hf
    have : q = true := by
      have hq : eqSs [] [] = some q := by simpa [sub] using hq
      exact (Option.some.inj hq).symm
    subst this
    simp [Op.eqFields]
  | f :: fs, o, l, q, hf, hx, hy, hc, hq => by
    simp only [flatFs] at hf
    split at hf
    · rename_i hno
      obtain ⟨hname, hoff⟩ := hno
      cases hm : flat P d f.type with
      | none => simp [hm] at hf
      | some k =>
        cases hr : flatFs (flat P d) fs (o + k.length) with
        | none => simp [hm, hr] at hf
        | some l' =>
        simp only [hm, hr, Option.some.injEq] at hf
        subst hf
        simp only [List.length_append] at hx hy hc hq
        rw [sub_split, sub_split] at hc hq
        have hl1 : (sub xs o k.length).length = k.length := sub_length (by omega)
        have hl2 : (sub ys o k.length).length = k.length := sub_length (by omega)
        have hc := cmpSs_append _ _ _ _ _ _ hl1 hl2 hc
        obtain ⟨q1, q2, hq1, hq2, rfl⟩ := eqSs_append _ _ _ _ _ (by rw [hl1, hl2]) hq
        obtain ⟨m, hsm, p1⟩ := run_part_flat hm w e xs o (by omega)
        obtain ⟨m', hsm', p2⟩ := run_part_flat hm w e ys o (by omega)
        obtain rfl : m = m' := by rw [hsm] at hsm'; cases hsm'; rfl
        have p3 := IH f.type k m D w e (sub xs o k.length) (sub ys o k.length) q1 hm hsm hD hc.1 hq1
        have ih := eqFields_flat IH hD w e xs ys fs (o + k.length) l' q2 hr (by omega) (by omega) hc.2 hq2
        subst hoff
        simp only [Op.eqFields, hname, ne_eq, not_false_eq_true, if_true, Sem.run_bind, p1, p2, p3, Result.andThen_ok]
        cases q1
        · simp
        · simpa using ih
    · cases hf
theorem eqItems_flat {d : Nat} (IH : EqFlat P d) {D : Nat} (hD : d ≤ D) (w : World) (en : Env) (xs ys : List S) {e : TypeId} {k : List Bool} (hk : flat P d e = some k) : ∀ (len i : Nat) (q : Bool), i * k.length + (rep k len).length ≤ xs.length → i * k.length + (rep k len).length ≤ ys.length →
    cmpSs (rep k len) (sub xs (i * k.length) (rep k len).length) (sub ys (i * k.length) (rep k len).length) = true → eqSs (sub xs (i * k.length) (rep k len).length) (sub ys (i * k.length) (rep k len).length) = some q →
    (Op.eqItems D e (P.cellsOf e) (trs en xs) (trs en ys) (List.range' i len)).run P w = .ok q w
  | 0, i, q, _, _, _, hq => by
    have : q = true := by
      have hq : eqSs [] [] = some q := by simpa [sub, rep] using hq
      exact (Option.some.inj hq).symm
    subst this
    simp [Op.eqItems]
  | len + 1, i, q, hx, hy, hc, hq => by
    obtain ⟨_, _, _, _, hcell⟩ := flat_shape hk
    simp only [rep, List.length_append] at hx hy hc hq
    have e2 : i * k.length + k.length = (i + 1) * k.length := by rw [Nat.add_mul, Nat.one_mul]
    rw [sub_split, sub_split, e2] at hc hq
    have hl1 : (sub xs (i * k.length) k.length).length = k.length := sub_length (by omega)
    have hl2 : (sub ys (i * k.length) k.length).length = k.length := sub_length (by omega)
    have hc := cmpSs_append _ _ _ _ _ _ hl1 hl2 hc
    obtain ⟨q1, q2, hq1, hq2, rfl⟩ := eqSs_append _ _ _ _ _ (by rw [hl1, hl2]) hq
    obtain ⟨m, hsm, p1⟩ := run_part_flat hk w en xs (i * k.length) (by omega)
    obtain ⟨m', hsm', p2⟩ := run_part_flat hk w en ys (i * k.length) (by omega)
    obtain rfl : m = m' := by rw [hsm] at hsm'; cases hsm'; rfl
    have p3 := IH e k m D w en (sub xs (i * k.length) k.length) (sub ys (i * k.length) k.length) q1 hk hsm hD hc.1 hq1
    have ih := eqItems_flat IH hD w en xs ys hk len (i + 1) q2 (by omega) (by omega) hc.2 hq2
    simp only [List.range'_succ, Op.eqItems, hcell, Sem.run_bind, p1, p2, p3, Result.andThen_ok]
    rw [hcell] at ih
    cases q1
    · simp
    · simpa using ih
theorem eqS1_i {k j : IntKind} {a b : Int} {q : Bool} (h : eqS1 (.i k a) (.i j b) = some q) (e : Env) : k = j ∧ q = (vl e a == vl e b) := by
  rcases onB_or (show onB (and (kEq k j) (and (reB a) (reB b))) (some (eqF a b)) (syB .eql k j a b) = some q from h) with ⟨hb, h⟩ | ⟨_, h⟩
  · obtain ⟨b1, b2⟩ := and_t hb
    obtain ⟨b2, b3⟩ := and_t b2
    exact ⟨kEq_t b1, by rw [reB_vl e b2, reB_vl e b3, ← Option.some.inj h, eqF_eq]; rfl⟩
  · obtain ⟨_, h1, _, _, h2⟩ := syB_ok (e := e) h
    exact ⟨h1, h2⟩
theorem eqFlat : ∀ d, EqFlat P d
  | 0 => fun T n m D w e xs ys q h => by simp [flat] at h
  | d + 1 => fun T n m D w e xs ys q h hm hD hc hq => by
    have IH := eqFlat d
    obtain ⟨hx, hy⟩ := cmpSs_length hc
    obtain ⟨D, rfl⟩ : ∃ D', D = D' + 1 := ⟨D - 1, by omega⟩
    unfold flat at h
    split at h
    · rename_i i k hi hu
      split at h
      · cases h
        obtain rfl : m = none := by simp only [shapeOf, hi, hu, Option.some.injEq] at hm; exact hm.symm
        obtain ⟨x, rfl⟩ := List.length_eq_one_iff.1 hx
        obtain ⟨y, rfl⟩ := List.length_eq_one_iff.1 hy
        obtain ⟨⟨_, j, a, b, rfl, rfl⟩ | ⟨h0, _⟩, _⟩ := cmpSs_cons hc
        · obtain ⟨p, r, h1, h2, rfl⟩ := eqSs_cons hq
          have : r = true := (Option.some.inj h2).symm
          subst this
          obtain ⟨_, rfl⟩ := eqS1_i h1 e
          simp [repr, S.tr, Op.equalIn, run_underlying hu]
        · cases h0
      · cases h
    · rename_i i hi hu
      split at h
      · cases h
        obtain rfl : m = none := by simp only [shapeOf, hi, hu, Option.some.injEq] at hm; exact hm.symm
        obtain ⟨x, rfl⟩ := List.length_eq_one_iff.1 hx
        obtain ⟨y, rfl⟩ := List.length_eq_one_iff.1 hy
        obtain ⟨⟨h0, _⟩ | ⟨_, a, b, rfl, rfl⟩, _⟩ := cmpSs_cons hc
        · cases h0
        · obtain ⟨p, r, h1, h2, rfl⟩ := eqSs_cons hq
          have : r = true := (Option.some.inj h2).symm
          subst this
          have : p = (a == b) := by cases a <;> cases b <;> exact (Option.some.inj h1).symm
          subst this
          simp [repr, S.tr, Op.equalIn, run_underlying hu]
      · cases h
    · rename_i i fs hi hu
      split at h
      · cases h
      · rename_i hst
        split at h
        · rename_i m' hm'
          split at h
          · rename_i he
            cases h
            obtain rfl : m = some i.size := by simp only [shapeOf, hi, hu, Option.some.injEq] at hm; exact hm.symm
            have hfo : P.fieldsOf T = fs := by simp [Program.fieldsOf, hu]
            have := eqFields_flat IH (D := D) (by omega) w e xs ys fs.toList 0 n q hm' (by omega) (by omega) (by rw [sub_all hx, sub_all hy]; exact hc) (by rw [sub_all hx, sub_all hy]; exact hq)
            simp only [repr]
            rw [run_equalIn_struct w D T _ _ (by rw [hfo]; exact hu) (by simpa using hst), hfo, this]
          · cases h
        · cases h
    · rename_i i a el hi hu
      split at h
      · rename_i k hk
        split at h
        · rename_i he
          cases h
          obtain rfl : m = some i.size := by simp only [shapeOf, hi, hu, Option.some.injEq] at hm; exact hm.symm
          obtain ⟨me, hme, _, _, _⟩ := flat_shape hk
          have hie : ∃ ie, P.info? el = some ie := by
            unfold shapeOf at hme; split at hme <;> first | exact ⟨_, by assumption⟩ | cases hme
          obtain ⟨ie, hie⟩ := hie
          have := eqItems_flat IH (D := D) (by omega) w e xs ys hk a 0 q (by omega) (by omega) (by rw [Nat.zero_mul, sub_all hx, sub_all hy]; exact hc) (by rw [Nat.zero_mul, sub_all hx, sub_all hy]; exact hq)
          simp only [repr]
          rw [run_equalIn_array w D _ _ hu hie, List.range_eq_range', this]
        · cases h
      · cases h
    · cases h
theorem pure_eqa {q : Bool} {T U : TypeId} {x y : Operand} {x' y' : O} {l : List Bool} (ho : o.op = .binOp (if q then .neq else .eql) T x y U)
    (hs : (∃ fs, P.underlying T = some (.struct fs)) ∨ ∃ n e, P.underlying T = some (.array n e)) (hf : flat P 20 T = some l) (hg : P.eqGuardType P.depth T = false)
    (hx : compX Y x = some x') (hy : compX Y y = some y') : Pure Y P o (.eqa q l x' y') := by
  intro cal t h k r hr
  obtain ⟨xs, h1, hr⟩ := asA_some (show asA (ev t x') _ = some r from hr)
  obtain ⟨ys, h2, hr⟩ := asA_some (show asA (ev t y') _ = some r from hr)
  obtain ⟨hc, hr⟩ := onB_t hr
  obtain ⟨b, hb, hr⟩ := onO_some hr
  refine ⟨.s (.b (if q then !b else b)), fun cal h k => ?_, fun e f a hT => ⟨_, .mk _, rfl, fun w => ?_⟩⟩
  · show asA (ev t x') _ = _
    simp only [h1, h2, e_asA, hc, e_t, hb, e_o, rQ_eq]
    cases q <;> rfl
  · have hv := (ev_eq hT (x := x) (by simp [ho, Op.operands]) hx h1 (by simp) rfl).1
    have hw := (ev_eq hT (x := y) (by simp [ho, Op.operands]) hy h2 (by simp) rfl).1
    simp only [V.tr] at hv hw
    have hm : ∃ k, shapeOf P T = some (some k) := by
      obtain ⟨m, hm, _, _⟩ := flat_shape hf
      cases hi : P.info? T with
      | none => simp [shapeOf, hi] at hm
      | some i => rcases hs with ⟨fs, hs⟩ | ⟨n, e, hs⟩ <;> exact ⟨i.size, by simp [shapeOf, hi, hs]⟩
    obtain ⟨k, hm⟩ := hm
    have := eqFlat 20 T l (some k) 10000 w e xs ys b hf hm (by omega) hc hb
    simp only [repr] at this
    cases q
    · simp [execOp, ho, hv, hw, V.tr, S.tr, run_eqGuard_agg w _ _ _ _ _ _ hg, run_eql_struct, this]
    · simp [execOp, ho, hv, hw, V.tr, S.tr, run_eqGuard_agg w _ _ _ _ _ _ hg, run_neq_struct, this]
end
def put : List S → Nat → List S → List S
  | xs, _, [] => xs
  | xs, o, v :: vs => put (xs.set o v) (o + 1) vs
theorem put_cons (x : S) : ∀ (l : List S) (n : Nat) (vs : List S), put (x :: l) (n + 1) vs = x :: put l n vs
  | l, n, [] => rfl
  | l, n, v :: vs => by
    show put ((x :: l).set (n + 1) v) (n + 1 + 1) vs = _
    rw [List.set_cons_succ, put_cons x (l.set n v) (n + 1) vs]; rfl
theorem ptS_put : ∀ {l : List S} {n : Nat} {vs r : List S}, ptS l n vs = some r → r = put l n vs ∧ n + vs.length ≤ l.length
  | l, 0, [], r, h => by simp only [ptS, Option.some.injEq] at h; subst h; exact ⟨rfl, by simp⟩
  | x :: l, 0, v :: vs, r, h => by
    simp only [ptS] at h
    split at h
    · rename_i q hq
      obtain ⟨h1, h2⟩ := ptS_put hq
      cases h
      refine ⟨?_, by simp; omega⟩
      show _ = put (v :: l) (0 + 1) vs
      rw [put_cons, h1]
    · cases h
  | x :: l, n + 1, vs, r, h => by
    simp only [ptS] at h
    split at h
    · rename_i q hq
      obtain ⟨h1, h2⟩ := ptS_put hq
      cases h
      exact ⟨by rw [put_cons, h1], by simp; omega⟩
    · cases h
  | [], 0, _ :: _, r, h => by simp [ptS] at h
  | [], _ + 1, _, r, h => by simp [ptS] at h
theorem put_length : ∀ (vs xs : List S) (o : Nat), (put xs o vs).length = xs.length
  | [], xs, o => rfl
  | v :: vs, xs, o => by rw [put, put_length vs]; simp
theorem all_set {f : S → Bool} {xs : List S} {o : Nat} {v : S} (h : xs.all f = true) (hv : f v = true) : (xs.set o v).all f = true := by
  simp only [List.all_eq_true] at *
  intro x hx
  rcases List.mem_or_eq_of_mem_set hx with hx | hx
  · exact h x hx
  · rw [hx]; exact hv
theorem all_put {f : S → Bool} : ∀ (vs xs : List S) (o : Nat), xs.all f = true → vs.all f = true → (put xs o vs).all f = true
  | [], xs, o, h, _ => h
  | v :: vs, xs, o, h, h' => by
    simp only [List.all_cons, Bool.and_eq_true] at h'
    exact all_put vs (xs.set o v) (o + 1) (all_set h h'.1) h'.2
theorem trs_put (e : Env) : ∀ (vs xs : List S) (o j : Nat), (((trs e vs).toList.zipIdx j).foldl (fun cs (x : Value × Nat) => cs.setIfInBounds (o + x.2) x.1) (trs e xs)) = trs e (put xs (o + j) vs)
  | [], xs, o, j => rfl
  | v :: vs, xs, o, j => by
    have h1 : (trs e xs).setIfInBounds (o + j) (v.tr e) = trs e (xs.set (o + j) v) := by
      simp [trs, List.map_set]
    have := trs_put e vs (xs.set (o + j) v) o (j + 1)
    simp only [trs, List.map_cons, List.zipIdx_cons, List.foldl_cons] at this ⊢
    rw [put, show o + j + 1 = o + (j + 1) by omega, ← this]
    congr 1
theorem cells_tr {v : V} (h : v.pl = true) (e : Env) : (v.tr e).cells = trs e v.cs := by
  cases v with
  | s x => cases x <;> simp [V.cs, V.tr, S.tr, Value.cells, trs]
  | agg xs => rfl
  | tup cs => cases h
  | u => cases h
theorem pl_u {v : V} (h : v.pl = true) : v ≠ .u := by rintro rfl; cases h
theorem cs_rf {v : V} {f : Pth → Bool} (h : v.pl = true) (hn : ∀ s, v = .s s → nU s = true) (hv : v.rf f = true) : v.cs.all (S.rf f) = true := by
  cases v with
  | s x => simp [V.cs, V.rf_s' hv (hn x rfl)]
  | agg xs => exact hv
  | tup cs => cases h
  | u => cases h
theorem pl_nU {v : V} (h : v.pl = true) (hn : ∀ s, v = .s s → nU s = true) : v.nU = true := by
  cases v with
  | s x => exact hn x rfl
  | _ => rfl
theorem asC_out {β : Type} {v : V} {c : List S → Option β} {r : β} (h : asC v c = some r) : v.pl = true ∧ (∀ s, v = .s s → nU s = true) ∧ c v.cs = some r ∧ ∀ {γ : Type} (c : List S → Option γ), asC v c = c v.cs := by
  obtain ⟨h1, h2, h3⟩ := asC_some h
  refine ⟨h1, h2, h3, fun c => ?_⟩
  cases v with
  | s x =>
    show onB (nU x) (c [x]) none = _
    rw [h2 x rfl]; rfl
  | agg xs => rfl
  | tup cs => cases h1
  | u => cases h1
section
variable {Y : Lay} {P : Program} {o : Oper}
theorem fill_out {place place' : Nat → Option (Nat × Nat)} (hpl : ∀ i x, place i = some x → place' i = some x) {t : T} : ∀ {parts : List (Nat × Operand)} {qs : List (Nat × Nat × O)} {z : List S} {β : Type} {c : List S → Option β} {r : β}, partsOf Y place parts = some qs → fillK t qs z c = some r →
    ∃ z', c z' = some r ∧ (∀ {γ : Type} (c : List S → Option γ), fillK t qs z c = c z') ∧ z'.length = z.length ∧ ∀ {e : Env} {f : Pth → Bool} {a : Act} {Z : Operand → Prop}, OT Y e t f a Z → (∀ x ∈ parts, Z x.2) → z.all (S.rf f) = true →
      Instr.fill place' (trs e z) (parts.map fun x => (x.1, a.eval x.2)) = some (trs e z') ∧ z'.all (S.rf f) = true
  | [], qs, z, β, c, r, hq, hr => by
    simp only [partsOf, Option.some.injEq] at hq; subst hq
    exact ⟨z, hr, fun _ => rfl, rfl, fun _ _ hz => ⟨rfl, hz⟩⟩
  | (i, x) :: parts, qs, z, β, c, r, hq, hr => by
    simp only [partsOf] at hq
    split at hq
    · rename_i off size y l h1 h2 h3
      simp only [Option.some.injEq] at hq
      subst hq
      obtain ⟨k1, k2, k3, k4⟩ := asC_out (show asC (ev t y) (fun vs => lenF vs fun n => onB (Nat.beq n size) (onO (ptF z off vs) fun z => fillK t l z c) none) = some r from hr)
      rw [lenF_eq] at k3
      obtain ⟨hb, k3⟩ := onB_t k3
      obtain ⟨z1, hz1, k3⟩ := onO_some k3
      obtain ⟨z', i1, i2, i3, i4⟩ := fill_out hpl h3 k3
      have hz1' := hz1
      rw [ptF_eq] at hz1'
      obtain ⟨rfl, hle⟩ := ptS_put hz1'
      refine ⟨z', i1, fun c => ?_, by rw [i3, put_length], fun {e f a Z} hT hS hz => ?_⟩
      · show asC (ev t y) (fun vs => lenF vs fun n => onB (Nat.beq n size) (onO (ptF z off vs) fun z => fillK t l z c) none) = _
        rw [k4, lenF_eq, hb, e_t, hz1, e_o, i2]
      · obtain ⟨hx, hxr⟩ := ev_eq hT (hS _ List.mem_cons_self) h2 rfl (pl_u k1) (pl_nU k1 k2)
        have ih := i4 hT (fun x hx => hS x (List.mem_cons_of_mem _ hx)) (all_put _ _ _ hz (cs_rf k1 k2 hxr))
        refine ⟨?_, ih.2⟩
        have hsz := nat_eq hb
        simp only [List.map_cons, Instr.fill, hpl i _ h1, hx, cells_tr k1 e, trs_size]
        rw [if_neg (by simp; omega)]
        have := trs_put e (ev t y).cs z off 0
        rw [← ih.1]
        congr 1
        rw [← Array.foldl_toList, Array.toList_zipIdx]
        simpa using this
    · cases hq
theorem zeroOf_run {T : TypeId} {z : List S} (h : zeroOf P T = some z) (e : Env) : ∃ i v, P.info? T = some i ∧ i.zero = some v ∧ v.cells = trs e z ∧ (∀ f, z.all (S.rf f) = true) ∧ z.length = i.size := by
  unfold zeroOf at h
  split at h
  · rename_i i hi
    split at h
    · rename_i v hz
      split at h
      · rename_i l hl
        split at h
        · rename_i hs
          cases h
          have := ofSs_tr hl e
          exact ⟨i, v, hi, hz, by simp [trs, this.1], this.2, hs⟩
        · cases h
      · cases h
    · cases h
  · cases h
theorem pure_build_struct {T : TypeId} {parts : Array (Nat × Operand)} {fs : Array Field} {z : List S} {qs : List (Nat × Nat × O)} (ho : o.op = .build T parts) (hz : zeroOf P T = some z)
    (hu : P.underlying T = some (.struct fs)) (hall : allSized P fs.toList = true) (hq : partsOf Y (fieldPlaces P fs.toList) parts.toList = some qs) : Pure Y P o (.build z qs) := by
  intro cal t h k r hr
  have hpl : ∃ places, fs.toList.mapM (fun f => (P.info? f.type).map fun i => (f.offset, i.size)) = some places ∧ ∀ j x, fieldPlaces P fs.toList j = some x → places.toArray[j]? = some x := by
    clear hr hq
    generalize fs.toList = l at hall
    induction l with
    | nil => exact ⟨[], rfl, fun j x hx => by simp [fieldPlaces] at hx⟩
    | cons f l ih =>
      simp only [allSized, List.all_cons, Bool.and_eq_true] at hall
      obtain ⟨ps, h1, h2⟩ := ih hall.2
      obtain ⟨k, hk⟩ := Option.isSome_iff_exists.1 hall.1
      refine ⟨(f.offset, k.size) :: ps, by simp [List.mapM_cons, hk, h1], fun j x hx => ?_⟩
      cases j with
      | zero => simp only [fieldPlaces, List.getElem?_cons_zero, hk, Option.map_some, Option.some.injEq] at hx; simp [hx]
      | succ j => simp only [fieldPlaces, List.getElem?_cons_succ] at hx; have := h2 j x hx; simpa using this
  obtain ⟨places, hp1, hp2⟩ := hpl
  obtain ⟨z', h1, h2, _, h3⟩ := fill_out (place' := fun j => places.toArray[j]?) hp2 hq (show fillK t qs z _ = some r from hr)
  refine ⟨.agg z', fun cal h k => h2 _, fun e f a hT => ?_⟩
  obtain ⟨i, v, hi, hiz, hcells, hvz, _⟩ := zeroOf_run hz e
  obtain ⟨f1, f2⟩ := h3 hT (fun x hx => by simp only [ho, Op.operands]; simp; exact ⟨x.1, by simpa using hx⟩) (hvz f)
  refine ⟨_, .mk _, f2, fun w => ?_⟩
  have hb : P.built T (parts.map fun (x : Nat × Operand) => (x.1, a.eval x.2)).toList = some (trs e z') := by
    simp only [Program.built, hi, hu, hiz, hp1, hcells, Array.toList_map]
    exact f1
  have := run_build w T _ _ hb
  simp [execOp, ho, this, V.tr]
theorem pure_build_array {T e : TypeId} {n : Nat} {parts : Array (Nat × Operand)} {i : TypeInfo} {z : List S} {qs : List (Nat × Nat × O)} (ho : o.op = .build T parts) (hz : zeroOf P T = some z)
    (hu : P.underlying T = some (.array n e)) (hi : P.info? e = some i) (hq : partsOf Y (fun j => some (j * i.size, i.size)) parts.toList = some qs) : Pure Y P o (.build z qs) := by
  intro cal t h k r hr
  obtain ⟨z', h1, h2, _, h3⟩ := fill_out (place' := fun j => some (j * i.size, i.size)) (fun _ _ h => h) hq (show fillK t qs z _ = some r from hr)
  refine ⟨.agg z', fun cal h k => h2 _, fun en f a hT => ?_⟩
  obtain ⟨k, v, hk, hiz, hcells, hvz, _⟩ := zeroOf_run hz en
  obtain ⟨f1, f2⟩ := h3 hT (fun x hx => by simp only [ho, Op.operands]; simp; exact ⟨x.1, by simpa using hx⟩) (hvz f)
  refine ⟨_, .mk _, f2, fun w => ?_⟩
  have hb : P.built T (parts.map fun (x : Nat × Operand) => (x.1, a.eval x.2)).toList = some (trs en z') := by
    simp only [Program.built, hk, hu, hiz, hi, hcells, Array.toList_map]
    exact f1
  have := run_build w T _ _ hb
  simp [execOp, ho, this, V.tr]
theorem bnd_out {t : T} {d : Nat} {x : Option Operand} {y : Option O} (hx : compB Y x = some y) {c : Nat → Ans} {r : RES} (hr : bndK t d y c = some r) :
    ∃ l, c l = some r ∧ (∀ c : Nat → Ans, bndK t d y c = c l) ∧ ((x = none ∧ l = d) ∨ ∃ z, x = some z ∧ ∀ {e : Env} {f : Pth → Bool} {a : Act} {Z : Operand → Prop}, OT Y e t f a Z → Z z → ∃ k, a.eval z = .int k (l : Int)) := by
  cases x with
  | none => simp only [compB, Option.some.injEq] at hx; subst hx; exact ⟨d, hr, fun _ => rfl, .inl ⟨rfl, rfl⟩⟩
  | some z =>
    simp only [compB] at hx
    cases h1 : compX Y z with
    | none => simp [h1] at hx
    | some z' =>
      simp only [h1, Option.map_some, Option.some.injEq] at hx
      subst hx
      obtain ⟨k, n, hn, hr⟩ := asI_some (show asI (ev t z') _ = some r from hr)
      cases n with
      | negSucc m => cases hr
      | ofNat m =>
        obtain ⟨hb, hr⟩ := onB_t (show onB (Nat.blt m 18446744073709551616) (c m) none = some r from hr)
        refine ⟨m, hr, fun c => ?_, .inr ⟨z, rfl, fun hT hS => ⟨k, ev_i hT hS h1 hn (reB_nat (nat_lt hb))⟩⟩⟩
        show asI (ev t z') _ = _
        rw [hn, e_asI]
        show onB (Nat.blt m 18446744073709551616) (c m) none = _
        rw [hb]; rfl
def Bnd (x : Option Value) (d l : Nat) : Prop := (x = none ∧ l = d) ∨ ∃ k, x = some (.int k (l : Int))
theorem sliceBound_run (w : World) (k : IntKind) (l y : Nat) (code : BoundsCode) (h : l ≤ y) : (Instr.sliceBound (.int k (l : Int)) y code).run P w = .ok l w := by
  have : (l : Int) ≤ (y : Int) := by omega
  simp [Instr.sliceBound, asIntOf, this]
theorem sliceBounds_run (w : World) (isSl : Bool) (len cap : Nat) {lo hi mx : Option Value} {l u m : Nat} (hm : Bnd mx cap m) (hmh : mx.isSome = true → hi.isSome = true) (hl : Bnd lo 0 l) (hu : Bnd hi len u)
    (h1 : l ≤ u) (h2 : u ≤ m) (h3 : m ≤ cap) : (Instr.sliceBounds isSl len cap lo hi mx).run P w = .ok (l, u, m) w := by
  rcases hm with ⟨rfl, rfl⟩ | ⟨k, rfl⟩
  · rcases hu with ⟨rfl, rfl⟩ | ⟨k, rfl⟩ <;> rcases hl with ⟨rfl, rfl⟩ | ⟨k', rfl⟩ <;> simp [Instr.sliceBounds, sliceBound_run, h1, h2]
  · rcases hu with ⟨rfl, rfl⟩ | ⟨k, rfl⟩
    · simp at hmh
    · rcases hl with ⟨rfl, rfl⟩ | ⟨k', rfl⟩ <;> simp [Instr.sliceBounds, sliceBound_run, h1, h2, h3]
theorem slice_addr (e : Env) (r : Pth) (off cap l k : Nat) : (if cap = l then adr e r off else (adr e r off).add (l * k)) = adr e r (if cap = l then off else off + l * k) := by
  split
  · rfl
  · rw [adr_add]
theorem slc_out {es : Nat} {r : Pth} {off len cap : Nat} {t : T} {lo hi mx : Option Operand} {lo' hi' mx' : Option O} (hlo : compB Y lo = some lo') (hhi : compB Y hi = some hi') (hmx : compB Y mx = some mx') (hmh : mx.isSome = true → hi.isSome = true)
    {h : Hp} {k : KV} {q : RES} (hr : slcK es r off len cap t lo' hi' mx' h k = some q) :
    ∃ o' n' c', (∀ h k, slcK es r off len cap t lo' hi' mx' h k = k (.s (.sl r o' n' c')) h) ∧ ∀ {e : Env} {f : Pth → Bool} {a : Act} {Z : Operand → Prop}, OT Y e t f a Z → (∀ x, lo = some x → Z x) → (∀ x, hi = some x → Z x) → (∀ x, mx = some x → Z x) →
      ∃ l u m, (∀ (w : World) (isSl : Bool), (Instr.sliceBounds isSl len (cpT e r cap) (lo.map a.eval) (hi.map a.eval) (mx.map a.eval)).run P w = .ok (l, u, m) w) ∧ (if m = l then off else off + l * es) = o' ∧ n' = u - l ∧ cpT e r c' = m - l := by
  obtain ⟨l, hr, hl, bl⟩ := bnd_out hlo (show bndK t 0 lo' _ = some q from hr)
  obtain ⟨u, hr, hu, bu⟩ := bnd_out hhi (show bndK t len hi' _ = some q from hr)
  have Bl : ∀ {e : Env} {f : Pth → Bool} {a : Act} {Z : Operand → Prop}, OT Y e t f a Z → (∀ x, lo = some x → Z x) → Bnd (lo.map a.eval) 0 l := fun hT hZ => by
    rcases bl with ⟨rfl, h⟩ | ⟨z, rfl, h⟩
    · exact .inl ⟨rfl, h⟩
    · obtain ⟨k, hk⟩ := h hT (hZ z rfl)
      exact .inr ⟨k, by simp [hk]⟩
  have Bu : ∀ {e : Env} {f : Pth → Bool} {a : Act} {Z : Operand → Prop}, OT Y e t f a Z → (∀ x, hi = some x → Z x) → Bnd (hi.map a.eval) len u := fun hT hZ => by
    rcases bu with ⟨rfl, h⟩ | ⟨z, rfl, h⟩
    · exact .inl ⟨rfl, h⟩
    · obtain ⟨k, hk⟩ := h hT (hZ z rfl)
      exact .inr ⟨k, by simp [hk]⟩
  cases mx with
  | none =>
    simp only [compB, Option.some.injEq] at hmx; subst hmx
    cases hG : Nat.ble G cap with
    | false =>
      have hlt : cap < G := by
        rcases Nat.lt_or_ge cap G with h | h
        · exact h
        · rw [Nat.ble_eq_true_of_le h] at hG; cases hG
      have hev : ∀ h k, slcK es r off len cap t lo' hi' none h k = onB (and (Nat.ble l u) (Nat.ble u cap)) (fN (Bool.casesOn (Nat.beq cap l) (Nat.add off (Nat.mul l es)) off) fun o => fN (Nat.sub u l) fun n => fN (Nat.sub cap l) fun c => k (.s (.sl r o n c)) h) none := fun h k => by
        show bndK t 0 lo' _ = _
        rw [hl, hu]
        show (Bool.rec _ _ (Nat.ble G cap) : Ans) = _
        rw [hG]
      have hr := (hev h k).symm.trans (by show slcK es r off len cap t lo' hi' none h k = some q; show bndK t 0 lo' _ = _; rw [hl, hu]; exact hr)
      obtain ⟨hb, hr⟩ := onB_t hr
      obtain ⟨b1, b2⟩ := and_t hb
      refine ⟨if cap = l then off else off + l * es, u - l, cap - l, fun h k => ?_, fun {e f a Z} hT z1 z2 z3 => ⟨l, u, cap, fun w isSl => ?_, rfl, rfl, ?_⟩⟩
      · rw [hev, hb, e_t, fN_eq, fN_eq, fN_eq]
        congr 2
        by_cases hc : cap = l
        · rw [if_pos hc, hc]; simp
        · rw [if_neg hc, beq_ne hc]; rfl
      · have : cpT e r cap = cap := by unfold cpT; rw [if_pos hlt]
        rw [this]
        exact sliceBounds_run w isSl len cap (.inl ⟨rfl, rfl⟩) (fun h => by simp at h) (Bl hT z1) (Bu hT z2) (nat_le b1) (nat_le b2) (Nat.le_refl _)
      · unfold cpT; rw [if_pos (by omega)]
    | true =>
      have hge : G ≤ cap := nat_le hG
      have hev : ∀ h k, slcK es r off len cap t lo' hi' none h k = onB (and (Nat.ble l u) (and (Nat.ble u (Nat.sub cap G)) (or (Nat.beq l 0) (Nat.blt l (Nat.sub cap G))))) (fN (Nat.add off (Nat.mul l es)) fun o => fN (Nat.sub u l) fun n => fN (Nat.sub cap l) fun c => k (.s (.sl r o n c)) h) none := fun h k => by
        show bndK t 0 lo' _ = _
        rw [hl, hu]
        show (Bool.rec _ _ (Nat.ble G cap) : Ans) = _
        rw [hG]
      have hr := (hev h k).symm.trans (by show slcK es r off len cap t lo' hi' none h k = some q; show bndK t 0 lo' _ = _; rw [hl, hu]; exact hr)
      obtain ⟨hb, hr⟩ := onB_t hr
      obtain ⟨b1, b2⟩ := and_t hb
      obtain ⟨b2, b3⟩ := and_t b2
      have g1 := nat_le b1
      have g2 : u ≤ cap - G := nat_le b2
      have g3 : l = 0 ∨ l < cap - G := by
        simp only [Bool.or_eq_true] at b3
        exact b3.imp nat_eq nat_lt
      refine ⟨off + l * es, u - l, cap - l, fun h k => ?_, fun {e f a Z} hT z1 z2 z3 => ⟨l, u, cap - G + e.δ r, fun w isSl => ?_, ?_, rfl, ?_⟩⟩
      · rw [hev, hb, e_t, fN_eq, fN_eq, fN_eq]; rfl
      · have : cpT e r cap = cap - G + e.δ r := by unfold cpT; rw [if_neg (by omega)]
        rw [this]
        exact sliceBounds_run w isSl len _ (.inl ⟨rfl, rfl⟩) (fun h => by simp at h) (Bl hT z1) (Bu hT z2) g1 (by omega) (Nat.le_refl _)
      · split
        · rcases g3 with g3 | g3
          · rw [g3]; simp
          · omega
        · rfl
      · unfold cpT; rw [if_neg (by omega)]; omega
  | some mz =>
    cases mx' with
    | none =>
      exfalso
      simp only [compB, Option.map_eq_some_iff] at hmx
      obtain ⟨_, _, hmx⟩ := hmx; cases hmx
    | some mo =>
      obtain ⟨m, hr, hm, bm⟩ := bnd_out hmx (show bndK t 0 (some mo) _ = some q from hr)
      have hev : ∀ h k, slcK es r off len cap t lo' hi' (some mo) h k = onB (and (Nat.ble l u) (and (Nat.ble u m) (and (Nat.blt m G) (Nat.ble m (Bool.casesOn (Nat.ble G cap) cap (Nat.sub cap G)))))) (fN (Bool.casesOn (Nat.beq m l) (Nat.add off (Nat.mul l es)) off) fun o => fN (Nat.sub u l) fun n => fN (Nat.sub m l) fun c => k (.s (.sl r o n c)) h) none := fun h k => by
        show bndK t 0 lo' _ = _
        rw [hl, hu]
        show bndK t 0 (some mo) _ = _
        rw [hm]
      obtain ⟨hb, hr⟩ := onB_t hr
      obtain ⟨b1, b2⟩ := and_t hb
      obtain ⟨b2, b3⟩ := and_t b2
      obtain ⟨b3, b4⟩ := and_t b3
      have g3 := nat_lt b3
      have g4 := nat_le b4
      refine ⟨if m = l then off else off + l * es, u - l, m - l, fun h k => ?_, fun {e f a Z} hT z1 z2 z3 => ⟨l, u, m, fun w isSl => ?_, rfl, rfl, ?_⟩⟩
      · rw [hev, hb, e_t, fN_eq, fN_eq, fN_eq]
        congr 2
        by_cases hc : m = l
        · rw [if_pos hc, hc]; simp
        · rw [if_neg hc, beq_ne hc]; rfl
      · have hle : m ≤ cpT e r cap := by
          unfold cpT
          cases hG : Nat.ble G cap with
          | true => rw [hG] at g4; have := nat_le hG; rw [if_neg (by omega)]; have g4 : m ≤ cap - G := g4; omega
          | false =>
            rw [hG] at g4
            have hlt : cap < G := by
              rcases Nat.lt_or_ge cap G with h | h
              · exact h
              · rw [Nat.ble_eq_true_of_le h] at hG; cases hG
            rw [if_pos hlt]; exact g4
        have Bm : Bnd ((some mz).map a.eval) (cpT e r cap) m := by
          rcases bm with ⟨h, _⟩ | ⟨z, hz, h⟩
          · cases h
          · obtain ⟨k, hk⟩ := h hT (z3 z hz)
            exact .inr ⟨k, by rw [hz]; simp [hk]⟩
        exact sliceBounds_run w isSl len _ Bm (fun _ => by have := hmh rfl; simpa using this) (Bl hT z1) (Bu hT z2) (nat_le b1) (nat_le b2) hle
      · unfold cpT; rw [if_pos (by omega)]
end
section
variable {Y : Lay} {P : Program} {o : Oper}
theorem pure_slc {T e : TypeId} {x : Operand} {x' : O} {lo hi mx : Option Operand} {lo' hi' mx' : Option O} {arr : Option Nat} {kd : TypeInfo} (ho : o.op = .slice T x lo hi mx)
    (hu : match arr with | some n => P.underlying T = some (.array n e) ∧ n < G | none => P.underlying T = some (.slice e)) (hk : P.info? e = some kd)
    (hx : compX Y x = some x') (hlo : compB Y lo = some lo') (hhi : compB Y hi = some hi') (hmx : compB Y mx = some mx') (hmh : mx.isSome = true → hi.isSome = true) : Pure Y P o (.slc arr kd.size x' lo' hi' mx') := by
  intro cal t h k r hr
  have S1 : x ∈ o.op.operands := by simp [ho, Op.operands]
  have S2 : ∀ z, lo = some z → z ∈ o.op.operands := fun z hz => by simp [ho, Op.operands, hz]
  have S3 : ∀ z, hi = some z → z ∈ o.op.operands := fun z hz => by simp [ho, Op.operands, hz]
  have S4 : ∀ z, mx = some z → z ∈ o.op.operands := fun z hz => by simp [ho, Op.operands, hz]
  cases arr with
  | some n =>
    obtain ⟨hu, hnG⟩ := hu
    obtain ⟨q, off, hq, hr⟩ := asP_some (show asP (ev t x') _ = some r from hr)
    obtain ⟨o', n', c', h1, h2⟩ := slc_out (P := P) hlo hhi hmx hmh hr
    refine ⟨.s (.sl q o' n' c'), fun cal h k => ?_, fun en f a hT => ?_⟩
    · show asP (ev t x') _ = _
      rw [hq, e_asP]; exact h1 h k
    obtain ⟨e1, e2⟩ := ev_eq hT S1 hx hq (by simp) rfl
    obtain ⟨l, u, m, g1, g2, g3, g4⟩ := h2 hT S2 S3 S4
    refine ⟨_, .mk _, e2, fun w => ?_⟩
    have hb := g1 w false
    have hc : cpT en q n = n := by unfold cpT; rw [if_pos hnG]
    rw [hc] at hb
    simp only [V.tr, S.tr] at e1
    simp only [execOp, ho, e1, Instr.sliceAt, Sem.run_bind, run_underlying hu, Result.andThen_ok, Instr.sureAddr, Sem.run_pure, hb, sizeOf, typeInfo, run_program, hk, slice_addr, V.tr, S.tr, g2, g3, g4]
  | none =>
    obtain ⟨s, hs, hr⟩ := asS_some (show asS (ev t x') _ = some r from hr)
    cases s <;> first | (cases hr; done) | skip
    · rename_i q off n c
      obtain ⟨o', n', c', h1, h2⟩ := slc_out (P := P) hlo hhi hmx hmh (show slcK kd.size q off n c t lo' hi' mx' h k = some r from hr)
      refine ⟨.s (.sl q o' n' c'), fun cal h k => ?_, fun en f a hT => ?_⟩
      · show asS (ev t x') _ = _
        rw [hs, e_asS]; exact h1 h k
      obtain ⟨e1, e2⟩ := ev_eq hT S1 hx hs (by simp) rfl
      obtain ⟨l, u, m, g1, g2, g3, g4⟩ := h2 hT S2 S3 S4
      refine ⟨_, .mk _, e2, fun w => ?_⟩
      have hb := g1 w true
      simp only [V.tr, S.tr] at e1
      have hsa : (if m = l then some (adr en q off) else (some (adr en q off)).map (·.add (l * kd.size))) = some (adr en q o') := by
        rw [← g2, ← slice_addr]; split <;> rfl
      simp only at hu
      simp only [execOp, ho, e1, Instr.sliceAt, Instr.slice, Sem.run_bind, run_underlying hu, Result.andThen_ok, Sem.run_pure, hb, sizeOf, typeInfo, run_program, hk, hsa, V.tr, S.tr, g3, g4]
    · have hev0 : ∀ cal h k, exJ (.slc none kd.size x' lo' hi' mx') cal t h k = bndK t 0 lo' fun l => bndK t 0 hi' fun u => Option.casesOn mx' (onB (and (Nat.beq l 0) (Nat.beq u 0)) (k (.s .ns) h) none) fun _ => none := fun cal h k => by
        show asS (ev t x') _ = _
        rw [hs, e_asS]
      have hr : (bndK t 0 lo' fun l => bndK t 0 hi' fun u => Option.casesOn mx' (onB (and (Nat.beq l 0) (Nat.beq u 0)) (k (.s .ns) h) none) fun _ => none) = some r := hr
      obtain ⟨l, hr, hl, bl⟩ := bnd_out hlo hr
      obtain ⟨u, hr, hu', bu⟩ := bnd_out hhi hr
      cases hmm : mx' with
      | some _ => rw [hmm] at hr; cases hr
      | none =>
      rw [hmm] at hr
      have hmx0 : mx = none := by
        cases mx with
        | none => rfl
        | some z =>
          exfalso
          simp only [compB, Option.map_eq_some_iff, hmm] at hmx
          obtain ⟨_, _, hmx⟩ := hmx; cases hmx
      obtain ⟨hb, hr⟩ := onB_t hr
      obtain ⟨b1, b2⟩ := and_t hb
      obtain rfl := nat_eq b1
      obtain rfl := nat_eq b2
      refine ⟨.s .ns, fun cal h k => ?_, fun en f a hT => ?_⟩
      · rw [← hmm, hev0, hl, hu', hmm]
        show onB (and (Nat.beq 0 0) (Nat.beq 0 0)) (k (.s .ns) h) none = _
        rfl
      obtain ⟨e1, e2⟩ := ev_eq hT S1 hx hs (by simp) rfl
      refine ⟨_, .mk _, rfl, fun w => ?_⟩
      have Bl : Bnd (lo.map a.eval) 0 0 := by
        rcases bl with ⟨rfl, h⟩ | ⟨z, rfl, h⟩
        · exact .inl ⟨rfl, rfl⟩
        · obtain ⟨k, hk⟩ := h hT (S2 z rfl)
          exact .inr ⟨k, by simp [hk]⟩
      have Bu : Bnd (hi.map a.eval) 0 0 := by
        rcases bu with ⟨rfl, h⟩ | ⟨z, rfl, h⟩
        · exact .inl ⟨rfl, rfl⟩
        · obtain ⟨k, hk⟩ := h hT (S3 z rfl)
          exact .inr ⟨k, by simp [hk]⟩
      have hbb := sliceBounds_run (P := P) w true 0 0 (mx := mx.map a.eval) (m := 0) (by rw [hmx0]; exact .inl ⟨rfl, rfl⟩) (by rw [hmx0]; simp) Bl Bu (Nat.le_refl _) (Nat.le_refl _) (Nat.le_refl _)
      simp only [V.tr, S.tr] at e1
      simp only at hu
      simp only [execOp, ho, e1, Instr.sliceAt, Instr.slice, Sem.run_bind, run_underlying hu, Result.andThen_ok, Sem.run_pure, hbb, sizeOf, typeInfo, run_program, hk, V.tr, S.tr]
      rfl
theorem pure_arr {A e : TypeId} {n : Nat} {x : Operand} {y : O} (ho : o.op = .sliceToArrayPointer A x) (hu : P.underlying A = some (.array n e)) (hx : compX Y x = some y) : Pure Y P o (.arr n y) := by
  intro cal t h k r hr
  obtain ⟨s, hs, hr⟩ := asS_some (show asS (ev t y) _ = some r from hr)
  cases s <;> first | (cases hr; done) | skip
  rename_i q off len c
  obtain ⟨hb, hr⟩ := onB_t (show onB (Nat.ble n len) _ none = some r from hr)
  refine ⟨.s (.p q off), fun cal h k => ?_, fun en f a hT => ?_⟩
  · show asS (ev t y) _ = _
    rw [hs, e_asS]; show onB (Nat.ble n len) _ none = _
    rw [hb]; rfl
  obtain ⟨e1, e2⟩ := ev_eq hT (x := x) (by simp [ho, Op.operands]) hx hs (by simp) rfl
  have hle := nat_le hb
  exact ⟨_, .mk _, e2, fun w => by simp [execOp, ho, e1, V.tr, S.tr, Instr.arrayAt, run_underlying hu, if_neg (Nat.not_lt.2 hle)]⟩
end
theorem B.rf_ro {f : Pth → Bool} {cs : List S} (h : (B.ro cs).rf f = true) : cs.all (S.rf f) = true := h
theorem ld1_out {β : Type} {b : B} {o : Nat} {c : S → Option β} {r : β} (h : ld1 b o c = some r) : ∃ s, c s = some r ∧ (∀ {γ : Type} (c : S → Option γ), ld1 b o c = c s) ∧
    ∀ {e : Env} {w : World} {p : Pth} {f : Pth → Bool}, OkB e w p b → b.rf f = true → (V.s s).rf f = true ∧ ∃ x, w.cell? (adr e p o) = some x ∧ Is e (.s s) x := by
  have key : ∀ cs : List S, onO (nthF cs o) c = some r → ∃ s, c s = some r ∧ (∀ {γ : Type} (c : S → Option γ), onO (nthF cs o) c = c s) ∧ cs[o]? = some s := fun cs h => by
    obtain ⟨s, hs, h⟩ := onO_some h
    refine ⟨s, h, fun c => by rw [hs, e_o], by rw [← nthF_eq]; exact hs⟩
  cases b with
  | dd => cases h
  | ro cs =>
    obtain ⟨s, h1, h2, h3⟩ := key cs h
    exact ⟨s, h1, h2, fun hO hf => ⟨V.rf_s (all_get hf h3), _, hO.2 o s h3, .mk _⟩⟩
  | c cs =>
    obtain ⟨s, h1, h2, h3⟩ := key cs h
    exact ⟨s, h1, h2, fun hO hf => ⟨V.rf_s (all_get hf h3), _, hO.2.1 o s h3, .mk _⟩⟩
  | gr cs m es =>
    obtain ⟨s, h1, h2, h3⟩ := key cs h
    exact ⟨s, h1, h2, fun hO hf => ⟨V.rf_s (all_get hf h3), _, hO.2.1 o s h3, .mk _⟩⟩
  | w k m D d =>
    obtain ⟨hb, h⟩ := onB_t (show onB (Nat.blt o m) (fI (wgF d o) fun n => c (.i k n)) none = some r from h)
    rw [fI_eq, wgF_eq] at h
    refine ⟨.i k (wg d o), h, fun c => ?_, fun {e w p f} hO hf => ⟨rfl, _, hO.2.1 o (nat_lt hb), .inl ?_⟩⟩
    · show onB (Nat.blt o m) (fI (wgF d o) fun n => c (.i k n)) none = _
      rw [hb, e_t, fI_eq, wgF_eq]
    · rfl
  | mp es ck => cases h
  | ml es => cases h
  | it m a b c => cases h
  | lp t ps asg body st pend => cases h
  | dq => cases h
  | cu s =>
    cases o with
    | zero => exact ⟨s, h, fun _ => rfl, fun hO hf => ⟨V.rf_s hf, _, hO.2.1, .mk _⟩⟩
    | succ o =>
      cases o with
      | zero =>
        refine ⟨.i .i64 unkN, h, fun _ => rfl, fun hO hf => ⟨rfl, ?_⟩⟩
        obtain ⟨n, hn⟩ := hO.2.2.1
        exact ⟨_, hn, .inr (.inl ⟨rfl, n, rfl⟩)⟩
      | succ o => cases h
  | rb m =>
    obtain ⟨hb, h⟩ := onB_t (show onB (Nat.blt o m) (c .ub) none = some r from h)
    refine ⟨.ub, h, fun c => by show onB (Nat.blt o m) (c .ub) none = _; rw [hb, e_t], fun hO hf => ⟨rfl, ?_⟩⟩
    obtain ⟨q, hq⟩ := hO.2 o (nat_lt hb)
    exact ⟨_, hq, .inr (.inr ⟨rfl, q, rfl⟩)⟩
theorem ldN_out {β : Type} {b : B} {o n : Nat} {c : List S → Option β} {r : β} (h : ldN b o n c = some r) : ∃ l, c l = some r ∧ (∀ {γ : Type} (c : List S → Option γ), ldN b o n c = c l) ∧ l.length = n ∧
    ∀ {e : Env} {w : World} {p : Pth} {f : Pth → Bool}, OkB e w p b → b.rf f = true → l.all (S.rf f) = true ∧ ∀ j s, l[j]? = some s → w.cell? (adr e p (o + j)) = some (s.tr e) := by
  have key : ∀ cs : List S, onO (tkF (drF cs o) n) c = some r → ∃ l, c l = some r ∧ (∀ {γ : Type} (c : List S → Option γ), onO (tkF (drF cs o) n) c = c l) ∧ l.length = n ∧ l = sub cs o n := fun cs h => by
    obtain ⟨l, hl, h⟩ := onO_some h
    obtain ⟨h1, h2⟩ := tkF_some hl
    rw [drF_eq] at h1 h2
    refine ⟨l, h, fun c => by rw [hl, e_o], ?_, h1⟩
    rw [h1, List.length_take]; omega
  have get : ∀ {cs : List S} {j : Nat} {s : S}, (sub cs o n)[j]? = some s → cs[o + j]? = some s := fun {cs j s} h => by
    by_cases hj : j < n
    · rw [← sub_get hj]; exact h
    · rw [sub, List.getElem?_take, if_neg hj] at h; cases h
  cases b with
  | dd => cases h
  | ro cs =>
    obtain ⟨l, h1, h2, h3, rfl⟩ := key cs h
    exact ⟨_, h1, h2, h3, fun hO hf => ⟨all_sub _ _ hf, fun j s hs => hO.2 _ s (get hs)⟩⟩
  | c cs =>
    obtain ⟨l, h1, h2, h3, rfl⟩ := key cs h
    exact ⟨_, h1, h2, h3, fun hO hf => ⟨all_sub _ _ hf, fun j s hs => hO.2.1 _ s (get hs)⟩⟩
  | gr cs m es =>
    obtain ⟨l, h1, h2, h3, rfl⟩ := key cs h
    exact ⟨_, h1, h2, h3, fun hO hf => ⟨all_sub _ _ hf, fun j s hs => hO.2.1 _ s (get hs)⟩⟩
  | w k m D d =>
    obtain ⟨hb, h⟩ := onB_t (show onB (Nat.ble (Nat.add o n) m) (c (wlS k d o n)) none = some r from h)
    have hle : o + n ≤ m := nat_le hb
    refine ⟨_, h, fun c => ?_, wlS_length _ _ _ _, fun {e w p f} hO hf => ⟨?_, fun j s hs => ?_⟩⟩
    · show onB (Nat.ble (Nat.add o n) m) (c (wlS k d o n)) none = _
      rw [hb, e_t]
    · rw [List.all_eq_true]
      intro s hs
      obtain ⟨j, hj⟩ := List.mem_iff_getElem?.1 hs
      have hjn : j < n := by have := (List.getElem?_eq_some_iff.1 hj).1; rw [wlS_length] at this; exact this
      rw [wlS_get k d n o j hjn] at hj
      cases hj
      exact kn_wg hf
    · have hjn : j < n := by have := (List.getElem?_eq_some_iff.1 hs).1; rw [wlS_length] at this; exact this
      rw [wlS_get k d n o j hjn] at hs
      cases hs
      exact hO.2.1 _ (by omega)
  | mp es ck => cases h
  | ml es => cases h
  | it m a b c => cases h
  | lp t ps asg body st pend => cases h
  | dq => cases h
  | cu s => cases h
  | rb m => cases h
theorem run_loadCells_of {P : Program} {e : Env} {w : World} {p : Pth} {o n : Nat} {l : List S} (hl : l.length = n) (h : ∀ j s, l[j]? = some s → w.cell? (adr e p (o + j)) = some (s.tr e)) : (loadCells (adr e p o) n).run P w = .ok (trs e l) w := by
  have := run_loadCells_list (P := P) w (adr e p o) (l.map (S.tr e)) (fun j v hj => by
    rw [List.getElem?_map] at hj
    cases hs : l[j]? with
    | none => simp [hs] at hj
    | some s =>
      simp only [hs, Option.map_some, Option.some.injEq] at hj
      subst hj
      rw [adr_add]
      exact h j s hs)
  rw [List.length_map, hl] at this
  exact this
theorem mpK_some {b : B} {c : List (V × V × Nat) → Nat → Ans} {r : RES} (h : mpK b c = some r) : ∃ es ck, b = .mp es ck ∧ c es ck = some r := by
  cases b <;> first | exact ⟨_, _, rfl, h⟩ | cases h
theorem e_mpK (es : List (V × V × Nat)) (ck : Nat) (c : List (V × V × Nat) → Nat → Ans) : mpK (.mp es ck) c = c es ck := rfl
section
variable {Y : Lay} {P : Program} {o : Oper}
theorem Rel.gb {e : Env} {h : Hp} {w : World} (H : Rel e h w) {r : Pth} (hr : r.ok h.n.n = true) : OkB e w r (h.gb r) ∧ (h.gb r).ok h.n.n = true := by
  rw [Hp.gb_eq]
  exact ⟨H.ok r (Pth.ok_iff.1 hr), H.val r (Pth.ok_iff.1 hr)⟩
theorem looks_ld {T : TypeId} {x : Operand} {y : O} (ho : o.op = .load T x) (hn : shapeOf P T = some none) (hx : compX Y x = some y) : Looks Y P o (.ld y) := by
  intro cal t h k r hr
  obtain ⟨q, off, hq, hr⟩ := asP_some (show asP (ev t y) _ = some r from hr)
  obtain ⟨s, _, h2, h3⟩ := ld1_out hr
  refine ⟨.s s, fun cal k => ?_, fun e a w hT H => ?_⟩
  · show asP (ev t y) _ = _
    rw [hq, e_asP, h2]
  obtain ⟨e1, e2⟩ := ev_eq hT (x := x) (by simp [ho, Op.operands]) hx hq (by simp) rfl
  obtain ⟨g1, g2⟩ := H.gb (r := q) e2
  obtain ⟨i1, x', i2, i3⟩ := h3 g1 g2
  exact ⟨x', .inr i3, i1, by simp [execOp, ho, e1, V.tr, S.tr, Instr.loadAt, Instr.sureAddr, loadVar, run_isAgg_none w hn, i2]⟩
theorem looks_ldn {T : TypeId} {x : Operand} {y : O} {n : Nat} (ho : o.op = .load T x) (hn : shapeOf P T = some (some n)) (hx : compX Y x = some y) : Looks Y P o (.ldn y n) := by
  intro cal t h k r hr
  obtain ⟨q, off, hq, hr⟩ := asP_some (show asP (ev t y) _ = some r from hr)
  obtain ⟨l, _, h2, h3, h4⟩ := ldN_out hr
  refine ⟨.agg l, fun cal k => ?_, fun e a w hT H => ?_⟩
  · show asP (ev t y) _ = _
    rw [hq, e_asP, h2]
  obtain ⟨e1, e2⟩ := ev_eq hT (x := x) (by simp [ho, Op.operands]) hx hq (by simp) rfl
  obtain ⟨g1, g2⟩ := H.gb (r := q) e2
  obtain ⟨i1, i2⟩ := h4 g1 g2
  have hc := run_loadCells_of (P := P) h3 i2
  exact ⟨_, .mk _, i1, by simp [execOp, ho, e1, V.tr, S.tr, Instr.loadAt, Instr.sureAddr, loadVar, run_isAgg_some w hn, hc]⟩
theorem looks_lenm {T kt et : TypeId} {x : Operand} {y : O} {c : Call} (ho : o.op = .call c) (hc : c.callee = .builtin .len) (ha : c.args.toList = [x]) (hat : c.argTypes.toList = [T])
    (hu : P.underlying T = some (.map kt et)) (hx : compX Y x = some y) : Looks Y P o (.lenm y) := by
  have ha' : c.args = #[x] := by rw [← ha]
  have hat' : c.argTypes = #[T] := by rw [← hat]
  intro cal t h k r hr
  obtain ⟨s, hs, hr⟩ := asS_some (show asS (ev t y) _ = some r from hr)
  cases s <;> first | (cases hr; done) | skip
  · rename_i q
    obtain ⟨es, ck, hg, hr⟩ := mpK_some hr
    rw [lenF_eq] at hr
    obtain ⟨hb, hr⟩ := onB_t hr
    refine ⟨.s (.i .i64 (.ofNat es.length)), fun cal k => ?_, fun e a w hT H => ?_⟩
    · show asS (ev t y) _ = _
      rw [hs, e_asS]
      show mpK (h.gb q) _ = _
      rw [hg, e_mpK, lenF_eq, hb, e_t]
    obtain ⟨e1, e2⟩ := ev_eq hT (x := x) (by simp [ho, Op.operands, Call.operands, hc, ha']) hx hs (by simp) rfl
    obtain ⟨g1, _⟩ := H.gb (r := q) e2
    rw [hg] at g1
    have hv : vl e (es.length : Int) = (es.length : Int) := vl_lt (by have := nat_lt hb; omega)
    have g1 : w.heap[(e.σ q).1]? = some (.map (es.map (entT e)).toArray ck) := g1
    exact ⟨_, .mk _, rfl, by simp [execOp, ho, e1, V.tr, S.tr, resolve, hc, ha', hat', invoke, builtin, Builtin.len_, run_underlying hu, getObj, Sem.run, g1, goInt, hv]⟩
  · refine ⟨.s (.i .i64 (.ofNat 0)), fun cal k => ?_, fun e a w hT H => ?_⟩
    · show asS (ev t y) _ = _
      rw [hs, e_asS]
    obtain ⟨e1, _⟩ := ev_eq hT (x := x) (by simp [ho, Op.operands, Call.operands, hc, ha']) hx hs (by simp) rfl
    exact ⟨_, .mk _, rfl, by simp [execOp, ho, e1, V.tr, S.tr, resolve, hc, ha', hat', invoke, builtin, Builtin.len_, run_underlying hu, goInt, vl]⟩
end
section
variable {Y : Lay} {P : Program} {o : Oper}
theorem eqI_some {a b : S} {q : Bool} (h : eqI a b = some q) : ∃ k x y, a = .i k x ∧ b = .i k y ∧ reB x = true ∧ reB y = true ∧ q = (x == y) := by
  cases a <;> first | (cases h; done) | skip
  rename_i k x
  cases b <;> first | (cases h; done) | skip
  rename_i k' y
  obtain ⟨hb, h⟩ := onB_t (show onB (and (kEq k k') (and (reB x) (reB y))) (some (eqF x y)) none = some q from h)
  obtain ⟨b1, b2⟩ := and_t hb
  obtain ⟨b2, b3⟩ := and_t b2
  have b1 := kEq_t b1
  subst b1
  have h2 : some (eqF x y) = some q := by assumption
  exact ⟨k, x, y, rfl, rfl, by assumption, by assumption, by rw [← Option.some.inj h2, eqF_eq]; rfl⟩
theorem eqS1_tr {a b : S} (h : eqS1 a b = some true) (e : Env) : a.tr e = b.tr e := by
  cases a <;> first | (cases h; done) | skip
  · cases b <;> first | (cases h; done) | skip
    rename_i x y
    cases x <;> cases y <;> first | rfl | (cases h; done)
  · cases b <;> first | (cases h; done) | skip
    obtain ⟨rfl, hq⟩ := eqS1_i h e
    have := eq_of_beq hq.symm
    simp only [S.tr, this]
theorem eqSs_tr : ∀ {a b : List S}, eqSs a b = some true → ∀ e : Env, a.map (S.tr e) = b.map (S.tr e)
  | [], [], _, _ => rfl
  | x :: a, y :: b, h, e => by
    obtain ⟨p, r, h1, h2, h3⟩ := eqSs_cons h
    have h3 := h3.symm
    simp only [Bool.and_eq_true] at h3
    rw [h3.1] at h1
    rw [h3.2] at h2
    simp [eqS1_tr h1 e, eqSs_tr h2 e]
  | [], _ :: _, h, _ => by cases h
  | _ :: _, [], h, _ => by cases h
theorem stG_out {s : S} {c : List Nat → Option Bool} {q : Bool} (h : stG s none c = some q) : ∃ l, s = .st l ∧ c l = some q := by
  cases s <;> first | exact ⟨_, rfl, h⟩ | cases h
theorem eqK_some {ks : List Bool} {a b : V} {q : Bool} (h : eqK ks a b = some q) : (ks = [] ∧ ∃ x y, a = .s x ∧ b = .s y ∧ eqI x y = some q) ∨ ((∃ k, ks = [k]) ∧ ∃ x y, a = .s (.st x) ∧ b = .s (.st y) ∧ allF bytB x = true ∧ allF bytB y = true ∧ q = natsB x y) ∨ (2 ≤ ks.length ∧ ∃ x y, a = .agg x ∧ b = .agg y ∧ cmpSs ks x y = true ∧ eqSs x y = some q) := by
  cases ks with
  | nil =>
    cases a <;> first | (cases h; done) | skip
    cases b <;> first | (cases h; done) | skip
    exact .inl ⟨rfl, _, _, rfl, rfl, h⟩
  | cons k ks => cases ks with
    | nil =>
      cases a <;> first | (cases h; done) | skip
      cases b <;> first | (cases h; done) | skip
      obtain ⟨x, rfl, h⟩ := stG_out (show stG _ none _ = some q from h)
      obtain ⟨y, rfl, h⟩ := stG_out h
      obtain ⟨h1, h2⟩ := onB_t h
      obtain ⟨h1, h3⟩ := and_t h1
      exact .inr (.inl ⟨⟨k, rfl⟩, x, y, rfl, rfl, h1, h3, (Option.some.inj h2).symm⟩)
    | cons k2 ks =>
      cases a <;> first | (cases h; done) | skip
      cases b <;> first | (cases h; done) | skip
      obtain ⟨h1, h2⟩ := onB_t (show onB (cmpSs (k :: k2 :: ks) _ _) (eqSs _ _) none = some q from h)
      exact .inr (.inr ⟨by simp, _, _, rfl, rfl, h1, h2⟩)
theorem natsB_dec : ∀ a b : List Nat, natsB a b = decide (a = b)
  | [], [] => rfl
  | [], _ :: _ => rfl
  | _ :: _, [] => rfl
  | x :: a, y :: b => by
    show and (Nat.beq x y) (natsB a b) = _
    rw [natsB_dec a b]
    by_cases h : x = y
    · subst h; simp
    · rw [beq_ne h]; simp [h]
theorem ba_eq (a b : ByteArray) : (a == b) = (a.data == b.data) := by cases a; cases b; rfl
theorem st_tr {e : Env} {x y : List Nat} (hx : allF bytB x = true) (hy : allF bytB y = true) (d : TypeDesc) (hd : d = .string) : Instr.sameNow d ((V.s (.st x)).tr e) ((V.s (.st y)).tr e) = some (natsB x y) := by
  subst hd
  rw [natsB_dec]
  show some (_ == _) = some _
  congr 1
  rw [ba_eq]
  by_cases h : x = y
  · subst h; simp
  · have : (⟨(x.map UInt8.ofNat).toArray⟩ : ByteArray) ≠ ⟨(y.map UInt8.ofNat).toArray⟩ := by
      intro c
      apply h
      have c := congrArg (fun b : ByteArray => b.data.toList.map UInt8.toNat) c
      simp only [List.map_map] at c
      have key : ∀ l : List Nat, allF bytB l = true → l.map (UInt8.toNat ∘ UInt8.ofNat) = l := fun l hl => by
        rw [allF_eq, List.all_eq_true] at hl
        conv => rhs; rw [← List.map_id l]
        refine List.map_congr_left fun n hn => ?_
        have : n < 256 := by have := hl n hn; unfold bytB at this; rwa [Nat.blt_eq] at this
        show (UInt8.ofNat n).toNat = n
        simp [UInt8.toNat_ofNat', Nat.mod_eq_of_lt this]
      rw [key x hx, key y hy] at c
      exact c
    simp only [h, decide_false]
    simpa [V.tr, S.tr] using this
theorem eqK_tr {ks : List Bool} {a b : V} (h : eqK ks a b = some true) (e : Env) : a.tr e = b.tr e := by
  rcases eqK_some h with ⟨_, x, y, rfl, rfl, h⟩ | ⟨_, x, y, rfl, rfl, _, _, h⟩ | ⟨_, x, y, rfl, rfl, _, h⟩
  · rename_i hI
    obtain ⟨k, n, m, rfl, rfl, _, _, hq⟩ := eqI_some (by assumption : eqI x y = some true)
    have := eq_of_beq hq.symm
    rw [this]
  · have h : true = natsB x y := by assumption
    rw [natsB_dec] at h
    have : x = y := by simpa using h.symm
    rw [this]
  · simp only [V.tr, trs, eqSs_tr (by assumption : eqSs x y = some true) e]
noncomputable def scan (ks : List Bool) (kv : V) : List ME → Nat → Option (Option (Nat × V))
  | [], _ => some none
  | (a, v, _) :: es, i => match eqK ks kv a with
    | some true => some (some (i, v))
    | some false => scan ks kv es (i + 1)
    | none => none
theorem fndK_scan (ks : List Bool) (kv : V) (fd : V → Ans) (nf : Unit → Ans) : ∀ (es : List ME) (i : Nat), fndK ks kv fd nf es = match scan ks kv es i with
    | some (some (_, v)) => fd v
    | some none => nf ()
    | none => none
  | [], _ => rfl
  | (a, v, b) :: es, i => by
    show onO (eqK ks kv a) (fun q => Bool.casesOn q (fndK ks kv fd nf es) (fd v)) = _
    rw [scan]
    cases h : eqK ks kv a with
    | none => rfl
    | some q => cases q with
      | true => rfl
      | false => exact fndK_scan ks kv fd nf es (i + 1)
theorem keyKs_some {kt : TypeId} {ks : List Bool} (h : keyKs P kt = some ks) : (ks = [] ∧ ∃ k, P.underlying kt = some (.int k)) ∨ (ks = [true] ∧ P.underlying kt = some .string) ∨ (2 ≤ ks.length ∧ ((∃ fs, P.underlying kt = some (.struct fs)) ∨ ∃ n e, P.underlying kt = some (.array n e)) ∧ flat P 20 kt = some ks) := by
  unfold keyKs at h
  split at h
  · rename_i k hu; cases h; exact .inl ⟨rfl, k, hu⟩
  · rename_i hu; cases h; exact .inr (.inl ⟨rfl, hu⟩)
  · rename_i fs hu
    split at h
    · rename_i l hl
      split at h
      · cases h
      · rename_i hg
        cases h
        simp only [Bool.or_eq_true, not_or] at hg
        exact .inr (.inr ⟨by have := hg.2; rw [Nat.ble_eq] at this; omega, .inl ⟨fs, hu⟩, hl⟩)
    · cases h
  · rename_i n e hu
    split at h
    · rename_i l hl
      split at h
      · cases h
      · rename_i hg
        cases h
        simp only [Bool.or_eq_true, not_or] at hg
        exact .inr (.inr ⟨by have := hg.2; rw [Nat.ble_eq] at this; omega, .inr ⟨n, e, hu⟩, hl⟩)
    · cases h
  · cases h
theorem flat_agg {kt : TypeId} {l : List Bool} (hs : (∃ fs, P.underlying kt = some (.struct fs)) ∨ ∃ n e, P.underlying kt = some (.array n e)) (hf : flat P 20 kt = some l) : ∃ k, shapeOf P kt = some (some k) := by
  obtain ⟨m, hm, _, _⟩ := flat_shape hf
  cases hi : P.info? kt with
  | none => simp [shapeOf, hi] at hm
  | some i => rcases hs with ⟨fs, hs⟩ | ⟨n, e, hs⟩ <;> exact ⟨i.size, by simp [shapeOf, hi, hs]⟩
theorem scan_find {kt : TypeId} {ks : List Bool} (hk : keyKs P kt = some ks) {kv : V} {es : List ME} {r : Option (Nat × V)} (h : scan ks kv es 0 = some r) (e : Env) (w : World) :
    (Instr.findKey kt (kv.tr e) (es.map (entT e))).run P w = .ok (r.map fun x => (x.1, x.2.tr e)) w := by
  have keyN : ∀ (d : TypeDesc), (∀ a q, eqK ks kv a = some q → Instr.sameNow d (kv.tr e) (a.tr e) = some q) → ∀ (es : List ME) (i : Nat) (r : Option (Nat × V)), scan ks kv es i = some r → Instr.findNow d (kv.tr e) (es.map (entT e)) i = some (r.map fun x => (x.1, x.2.tr e)) := fun d hd es => by
    induction es with
    | nil => intro i r h; cases h; rfl
    | cons x es ih =>
      obtain ⟨a, v, b⟩ := x
      intro i r h
      rw [scan] at h
      cases hq : eqK ks kv a with
      | none => rw [hq] at h; cases h
      | some q =>
        rw [hq] at h
        have hint := hd a q hq
        cases q with
        | true => cases h; simp [Instr.findNow, entT, hint]
        | false => simp only [List.map_cons, Instr.findNow, entT, hint]; exact ih (i + 1) r h
  rcases keyKs_some hk with ⟨hn, k, hu⟩ | ⟨hn, hu⟩ | ⟨hn, hs, hf⟩
  · refine MapKept.run_findKey hu (keyN (.int k) (fun a q hq => ?_) es 0 r h)
    rcases eqK_some hq with ⟨_, x, y, rfl, rfl, hi⟩ | ⟨⟨_, hne⟩, _⟩ | ⟨hne, _⟩
    · obtain ⟨k', n, m, rfl, rfl, h1, h2, h3⟩ := eqI_some hi
      have : k' = k' := rfl
      simp only [V.tr, S.tr, reB_vl e h1, reB_vl e h2, Instr.sameNow, if_true, h3]
    · rw [hn] at hne; cases hne
    · rw [hn] at hne; exact absurd hne (by simp)
  · refine MapKept.run_findKey hu (keyN .string (fun a q hq => ?_) es 0 r h)
    rcases eqK_some hq with ⟨hne, _⟩ | ⟨_, x, y, rfl, rfl, h1, h2, rfl⟩ | ⟨hne, _⟩
    · rw [hn] at hne; cases hne
    · exact st_tr h1 h2 _ rfl
    · rw [hn] at hne; exact absurd hne (by simp)
  · obtain ⟨sz, hsz⟩ := flat_agg hs hf
    have hwide : (match P.underlying kt with | some (.array _ _) | some (.struct _) => true | _ => false) = true := by rcases hs with ⟨fs, hs⟩ | ⟨n, el, hs⟩ <;> rw [hs]
    rw [run_findKey_eq w hwide]
    have key : ∀ (es : List ME) (i : Nat) (r : Option (Nat × V)), scan ks kv es i = some r → (Instr.findAsking kt (kv.tr e) (es.map (entT e)) i).run P w = .ok (r.map fun x => (x.1, x.2.tr e)) w := fun es => by
      induction es with
      | nil => intro i r h; cases h; simp [Instr.findAsking]
      | cons x es ih =>
        obtain ⟨a, v, b⟩ := x
        intro i r h
        rw [scan] at h
        cases hq : eqK ks kv a with
        | none => rw [hq] at h; cases h
        | some q =>
          rw [hq] at h
          have heq : (Op.equal kt (kv.tr e) (a.tr e)).run P w = .ok q w := by
            rcases eqK_some hq with ⟨h0, _⟩ | ⟨⟨_, h0⟩, _⟩ | ⟨_, x, y, rfl, rfl, hc, hs⟩
            · rw [h0] at hn; exact absurd hn (by simp)
            · rw [h0] at hn; exact absurd hn (by simp)
            · have := eqFlat 20 kt ks (some sz) 10000 w e x y q hf hsz (by omega) hc hs
              exact this
          cases q with
          | true => cases h; simp [Instr.findAsking, entT, heq]
          | false =>
            simp only [List.map_cons, Instr.findAsking, entT, Sem.run_bind, heq, Result.andThen_ok, Bool.false_eq_true, if_false]
            exact ih (i + 1) r h
    exact key es 0 r h
theorem run_ck_flat (em : Bool) (w : World) (e : Env) : ∀ (d : Nat) (T : TypeId) (l : List Bool) (m : Option Nat) (D : Nat) (xs : List S), flat P d T = some l → shapeOf P T = some m → d ≤ D → xs.length = l.length → (∀ x ∈ xs, (∃ k n, x = .i k n) ∨ ∃ b, x = .b b) →
    (Instr.checkKey em D T (repr e m xs)).run P w = .ok () w
  | 0, T, l, m, D, xs, h, _, _, _, _ => by simp [flat] at h
  | d + 1, T, l, m, D, xs, h, hm, hD, hx, hk => by
    obtain ⟨D, rfl⟩ : ∃ D', D = D' + 1 := ⟨D - 1, by omega⟩
    have IH := run_ck_flat em w e d
    have hsub : ∀ {o n : Nat}, (∀ x ∈ sub xs o n, (∃ k n, x = .i k n) ∨ ∃ b, x = .b b) := fun {o n} x hx => hk x (List.mem_of_mem_drop (List.mem_of_mem_take hx))
    unfold flat at h
    split at h
    · rename_i i k hi hu
      split at h
      · cases h
        obtain rfl : m = none := by simp only [shapeOf, hi, hu, Option.some.injEq] at hm; exact hm.symm
        simp [Instr.checkKey, run_underlying hu]
      · cases h
    · rename_i i hi hu
      split at h
      · cases h
        obtain rfl : m = none := by simp only [shapeOf, hi, hu, Option.some.injEq] at hm; exact hm.symm
        simp [Instr.checkKey, run_underlying hu]
      · cases h
    · rename_i i fs hi hu
      split at h
      · cases h
      · split at h
        · rename_i m' hm'
          split at h
          · rename_i he
            cases h
            obtain rfl : m = some i.size := by simp only [shapeOf, hi, hu, Option.some.injEq] at hm; exact hm.symm
            simp only [repr]
            rw [Instr.checkKey]
            simp only [Sem.run_bind, run_underlying hu, Result.andThen_ok]
            rw [← Array.forIn_toList]
            obtain ⟨L, hL⟩ : ∃ L, fs.toList = L := ⟨_, rfl⟩
            rw [hL] at hm' ⊢
            refine (?_ : ∀ (o : Nat) (l : List Bool), flatFs (flat P d) L o = some l → o + l.length ≤ xs.length → _) 0 _ hm' (by omega)
            clear hL hm'
            induction L with
            | nil => intro o l _ _; simp
            | cons f L ih =>
              intro o l hf ho
              simp only [flatFs] at hf
              split at hf
              · rename_i hno
                obtain ⟨hname, hoff⟩ := hno
                cases hmm : flat P d f.type with
                | none => simp [hmm] at hf
                | some k =>
                  cases hr : flatFs (flat P d) L (o + k.length) with
                  | none => simp [hmm, hr] at hf
                  | some l' =>
                    simp only [hmm, hr, Option.some.injEq] at hf
                    subst hf
                    simp only [List.length_append] at ho
                    obtain ⟨mm, hsm, p1⟩ := run_part_flat hmm w e xs o (by omega)
                    have p2 := IH f.type k mm D (sub xs o k.length) hmm hsm (by omega) (sub_length (by omega)) hsub
                    subst hoff
                    simp only [List.forIn_cons, Sem.run_bind, hname, ne_eq, not_false_eq_true, if_true, Result.andThen_ok, p1, p2, Sem.run_pure]
                    exact ih (f.offset + k.length) l' hr (by omega)
              · cases hf
          · cases h
        · cases h
    · rename_i i a el hi hu
      split at h
      · rename_i k hk'
        split at h
        · rename_i he
          cases h
          obtain rfl : m = some i.size := by simp only [shapeOf, hi, hu, Option.some.injEq] at hm; exact hm.symm
          simp only [repr]
          rw [Instr.checkKey]
          obtain ⟨me, hme, _, _, hcell⟩ := flat_shape hk'
          have hie : ∃ ie, P.info? el = some ie := by
            unfold shapeOf at hme; split at hme <;> first | exact ⟨_, by assumption⟩ | cases hme
          obtain ⟨ie, hie⟩ := hie
          have hsz : (sizeOf el).run P w = .ok k.length w := by
            have : ie.size = k.length := by simpa [Program.cellsOf, hie] using hcell
            simp [sizeOf, typeInfo, hie, this]
          simp only [Sem.run_bind, run_underlying hu, Result.andThen_ok]
          simp only [Std.Legacy.Range.forIn_eq_forIn_range', Std.Legacy.Range.size, Nat.sub_zero, Nat.add_one_sub_one, Nat.div_one]
          have hrep : ∀ n, (rep k n).length = n * k.length := fun n => by
            induction n with
            | zero => simp [rep]
            | succ n ih => simp only [rep, List.length_append, ih, Nat.add_mul, Nat.one_mul]; omega
          rw [hrep] at hx
          refine (?_ : ∀ (i : Nat), i * k.length + a * k.length ≤ xs.length → ((forIn (List.range' i a) _ _ : Sem _).run P w).andThen _ = _) 0 (by omega)
          clear he hi hu hx hm
          induction a with
          | zero => intro i _; simp
          | succ len ih =>
            intro i hle
            rw [Nat.add_mul, Nat.one_mul] at hle
            obtain ⟨mm, hsm, p1⟩ := run_part_flat hk' w e xs (i * k.length) (by omega)
            have p2 := IH el k mm D (sub xs (i * k.length) k.length) hk' hsm (by omega) (sub_length (by omega)) hsub
            simp only [List.range'_succ, List.forIn_cons, Sem.run_bind, hsz, Result.andThen_ok, p1, p2, Sem.run_pure]
            exact ih (i + 1) (by rw [Nat.add_mul, Nat.one_mul]; omega)
        · cases h
      · cases h
    · cases h
end
end Go.E
