/- A part of the proof of the claim that the last text of this folder states. -/
import Derived.Test.YtebgbhgehnpahaaGreatDoorS05
namespace Go.E
set_option linter.all false
section
variable {β : Type} (k k' : IntKind) (a b : Int) (c : V → Option β)
theorem binK_add : binK .add k k' a b c = c (.s (.i k (k.wrap (a + b)))) := rI_eq k (a + b) c
theorem binK_sub : binK .sub k k' a b c = c (.s (.i k (k.wrap (a - b)))) := rI_eq k (a - b) c
theorem binK_mul : binK .mul k k' a b c = c (.s (.i k (k.wrap (a * b)))) := rI_eq k (a * b) c
theorem binK_quo (h : eqF b 0 = false) : binK .quo k k' a b c = c (.s (.i k (k.wrap (a.tdiv b)))) := by
  show onB (eqF b 0) none (rI k (a.tdiv b) c) = _
  rw [h, e_f, rI_eq]
theorem binK_rem (h : eqF b 0 = false) : binK .rem k k' a b c = c (.s (.i k (a.tmod b))) := by
  show onB (eqF b 0) none (rI' k (a.tmod b) c) = _
  rw [h, e_f, rI'_eq]
theorem binK_and : binK .and k k' a b c = c (.s (.i k (bits .and k a b))) := by
  show rI' k (bitF .and k Nat.land a b) c = _
  rw [rI'_eq, bitF_eq bits_and64]
theorem binK_or : binK .or k k' a b c = c (.s (.i k (bits .or k a b))) := by
  show rI' k (bitF .or k Nat.lor a b) c = _
  rw [rI'_eq, bitF_eq bits_or64]
theorem binK_xor : binK .xor k k' a b c = c (.s (.i k (bits .xor k a b))) := by
  show rI' k (bitF .xor k Nat.xor a b) c = _
  rw [rI'_eq, bitF_eq bits_xor64]
theorem binK_shl (h : leF 0 b = true) : binK .shl k k' a b c = c (.s (.i k (k.wrap (a * 2 ^ min b.toNat k.bits)))) := by
  show onB (leF 0 b) (rI k (a * p2 k b) c) none = _
  rw [h, e_t, rI_eq, p2_eq]
theorem binK_shr (h : leF 0 b = true) : binK .shr k k' a b c = c (.s (.i k (a / 2 ^ min b.toNat k.bits))) := by
  show onB (leF 0 b) (rI' k (Int.fdiv a (p2 k b)) c) none = _
  have hp : (0 : Int) < 2 ^ min b.toNat k.bits := Int.pow_pos (by omega)
  rw [h, e_t, rI'_eq, p2_eq, Int.fdiv_eq_ediv_of_nonneg _ (Int.le_of_lt hp)]
theorem binK_andNot : binK .andNot k k' a b c = c (.s (.i k (bits .andNot k a b))) := rI'_eq k _ c
theorem binK_eql : binK .eql k k' a b c = c (.s (.b (a == b))) := by
  show rQ (eqF a b) c = _
  rw [rQ_eq, eqF_eq]; rfl
theorem binK_neq : binK .neq k k' a b c = c (.s (.b (a != b))) := by
  show rQ (Bool.not (eqF a b)) c = _
  rw [rQ_eq, eqF_eq]; rfl
theorem binK_lss : binK .lss k k' a b c = c (.s (.b (decide (a < b)))) := by
  show rQ (Bool.not (leF b a)) c = _
  rw [rQ_eq, leF_eq]
  congr 3
  by_cases h : a < b
  · simp [h]
  · simp [h]; omega
theorem binK_leq : binK .leq k k' a b c = c (.s (.b (decide (a ≤ b)))) := by
  show rQ (leF a b) c = _
  rw [rQ_eq, leF_eq]
theorem binK_gtr : binK .gtr k k' a b c = c (.s (.b (decide (a > b)))) := by
  show rQ (Bool.not (leF a b)) c = _
  rw [rQ_eq, leF_eq]
  congr 3
  by_cases h : a > b
  · simp [h]
  · simp [h]; omega
theorem binK_geq : binK .geq k k' a b c = c (.s (.b (decide (a ≥ b)))) := by
  show rQ (leF b a) c = _
  rw [rQ_eq, leF_eq]
end
section
variable {Y : Lay} {P : Program} {o : Oper}
theorem ev_int {e : Env} {t : T} {f : Pth → Bool} {a : Act} {Z : Operand → Prop} (hT : OT Y e t f a Z) {x : Operand} {y : O} (hS : Z x) (hx : compX Y x = some y) {n : Int} (hv : ev t y = .s (.i .i64 n)) : ∃ m, a.eval x = .int .i64 m := by
  obtain ⟨_, h2⟩ := ev_is hT hS hx
  rw [hv] at h2
  rcases h2 with h2 | h2 | ⟨_, h2⟩ | ⟨h2, _⟩
  · cases h2
  · exact ⟨_, h2⟩
  · exact h2
  · cases h2
theorem fdiv_le (a b : Int) (hb : 0 < b) (h : a < 18446744073709551616) : Int.fdiv a b < 18446744073709551616 := by
  rw [Int.fdiv_eq_ediv_of_nonneg _ (Int.le_of_lt hb)]
  by_cases ha : 0 ≤ a
  · exact Int.lt_of_le_of_lt (Int.ediv_le_self _ ha) h
  · have := Int.ediv_neg_of_neg_of_pos (by omega : a < 0) hb
    omega
theorem tmod_lt (a b : Int) (h : a < 18446744073709551616) : Int.tmod a b < 18446744073709551616 := by
  by_cases ha : 0 ≤ a
  · have h2 : Int.tmod a b ≤ a := by
      obtain ⟨m, rfl⟩ := Int.eq_ofNat_of_zero_le ha
      rcases b with n | n
      · show ((m % n : Nat) : Int) ≤ m
        exact Int.ofNat_le.2 (Nat.mod_le _ _)
      · show ((m % (n + 1) : Nat) : Int) ≤ m
        exact Int.ofNat_le.2 (Nat.mod_le _ _)
    omega
  · have : Int.tmod a b ≤ 0 := by
      have := Int.tmod_nonneg b (by omega : 0 ≤ -a)
      rw [Int.neg_tmod] at this
      omega
    omega
theorem oI_out {β : Type} {o : Option Nat} {f : Nat → Option β} {z : Option β} {r : β} (h : oI o f z = some r) : (∃ n, o = some n ∧ f n = some r) ∨ (o = none ∧ z = some r) := by
  cases o with
  | none => exact .inr ⟨rfl, h⟩
  | some n => exact .inl ⟨n, rfl, h⟩
theorem oQ_out {β : Type} {o : Option Bool} {f : Bool → Option β} {z : Option β} {r : β} (h : oQ o f z = some r) : (∃ n, o = some n ∧ f n = some r) ∨ (o = none ∧ z = some r) := by
  cases o with
  | none => exact .inr ⟨rfl, h⟩
  | some n => exact .inl ⟨n, rfl, h⟩
theorem syI_op {op : BinOp} {k k' : IntKind} {a b : Int} {p : Nat} (h : syI op k k' a b = some p) : (op = .add ∨ op = .and ∨ op = .or ∨ op = .shl ∨ op = .shr ∨ op = .andNot) ∧ (shB op = true → ∃ y, b = .ofNat y ∧ plN y = true) := by
  cases a with
  | negSucc x => cases h
  | ofNat x => cases b with
    | negSucc y => cases h
    | ofNat y =>
      obtain ⟨_, h⟩ := onB_t' (show onB (or (shB op) (kQ k k')) (onB (plN y) (syO op k x y) (onB (and (comB op) (plN x)) (syO op k y x) none)) none = some p from h)
      rcases onB_or h with ⟨hy, h⟩ | ⟨_, h⟩
      · refine ⟨?_, fun _ => ⟨_, rfl, hy⟩⟩
        cases op <;> first | (simp; done) | (cases h; done)
      · obtain ⟨hb, h⟩ := onB_t' h
        obtain ⟨hc, _⟩ := and_t' hb
        cases op <;> first | (cases hc; done) | exact ⟨by simp, fun hs => by cases hs⟩
theorem bin_sy {op : BinOp} {T U : TypeId} {x y : Operand} {x' y' : O} (ho : o.op = .binOp op T x y U) (hx : compX Y x = some x') (hy : compX Y y = some y') {t : Go.E.T} {h : Hp} {k : KV} {r : RES} {k1 k2 : IntKind} {n m : Int} (hn : ev t x' = .s (.i k1 n)) (hm : ev t y' = .s (.i k2 m))
    (hop : ∀ cal h k, exJ (.bin op x' y') cal t h k = syV op k1 k2 n m fun v => k v h) (hr : syV op k1 k2 n m (fun v => k v h) = some r) :
    ∃ v, (∀ cal h k, exJ (.bin op x' y') cal t h k = k v h) ∧ ∀ e f a, OT Y e t f a (· ∈ o.op.operands) → ∃ x, Isu e v x ∧ v.rf f = true ∧ ∀ w, (execOp a.eval o).run P w = .ok (.value x) w := by
  have hSx : x ∈ o.op.operands := by simp [ho, Op.operands]
  have hSy : y ∈ o.op.operands := by simp [ho, Op.operands]
  have q1 : ∀ {e : Env} {f : Pth → Bool} {a : Act}, kn n = true → OT Y e t f a (· ∈ o.op.operands) → a.eval x = .int k1 (vl e n) := fun hk hT => (ev_eq hT hSx hx hn (by simp) (by exact hk)).1
  have q2 : ∀ {e : Env} {f : Pth → Bool} {a : Act}, kn m = true → OT Y e t f a (· ∈ o.op.operands) → a.eval y = .int k2 (vl e m) := fun hk hT => (ev_eq hT hSy hy hm (by simp) (by exact hk)).1
  rcases onB_or hr with ⟨hc, hr⟩ | ⟨hc, hr⟩
  · rcases oQ_out hr with ⟨q, hq, hr⟩ | ⟨hq, hr⟩
    rotate_left
    · obtain ⟨hu, hr⟩ := onB_t' hr
      obtain ⟨u1, u2⟩ := and_t' hu
      obtain ⟨u2, u3⟩ := and_t' u2
      obtain rfl := kEq_t u1
      refine ⟨.s .ub, fun cal h k => ?_, fun e f a hT => ?_⟩
      · rw [hop]; unfold syV; rw [hc, hq]; show onB (and (kEq k1 k1) (and (kn n) (kn m))) _ none = _; rw [hu]; rfl
      · have e1 := q1 u2 hT
        have e2 := q2 u3 hT
        cases op <;> first | (cases hc; done) | skip
        all_goals exact ⟨_, .inr (.inr (.inr ⟨rfl, _, rfl⟩)), rfl, fun w => by simp [execOp, ho, e1, e2, eqGuard, binOp, Op.intCmp]; rfl⟩
    refine ⟨.s (.b q), fun cal h k => ?_, fun e f a hT => ⟨_, .mk _, rfl, fun w => ?_⟩⟩
    · rw [hop]; unfold syV; rw [hc, hq]; show rQ q (fun v => k v h) = _; exact rQ_eq _ _
    · obtain ⟨_, rfl, g1, g2, g3⟩ := syB_ok (e := e) hq
      subst g3
      cases op <;> first | (cases hc; done) | skip
      all_goals simp [execOp, ho, q1 g1 hT, q2 g2 hT, V.tr, S.tr, eqGuard, binOp, Op.intCmp, opB]
  · rcases oI_out hr with ⟨p, hp, hr⟩ | ⟨hp, hr⟩
    · refine ⟨.s (.i k1 (.ofNat p)), fun cal h k => ?_, fun e f a hT => ?_⟩
      · rw [hop]; unfold syV; rw [hc, hp]; show rN k1 p (fun v => k v h) = _; exact rN_eq _ _ _
      · obtain ⟨g1, g2, g3, g4, g5⟩ := syI_ok (e := e) hp
        refine ⟨_, .mk _, rfl, fun w => ?_⟩
        obtain ⟨hops, hshb⟩ := syI_op hp
        have hsh : shB op = true → 0 ≤ vl e m := fun hs => by
          obtain ⟨y, rfl, hy⟩ := hshb hs
          rw [vl_pl (plN_lt hy)]; omega
        simp only [V.tr, S.tr, g5]
        rcases hops with rfl | rfl | rfl | rfl | rfl | rfl
        · obtain rfl : k1 = k2 := by
            rcases g4 with g4 | g4
            · cases g4
            · exact g4
          simp [execOp, ho, q1 g1 hT, q2 g2 hT, V.tr, S.tr, eqGuard, binOp, Op.intArith, opI]
        · obtain rfl : k1 = k2 := by
            rcases g4 with g4 | g4
            · cases g4
            · exact g4
          simp [execOp, ho, q1 g1 hT, q2 g2 hT, V.tr, S.tr, eqGuard, binOp, intBits_and, opI]
        · obtain rfl : k1 = k2 := by
            rcases g4 with g4 | g4
            · cases g4
            · exact g4
          simp [execOp, ho, q1 g1 hT, q2 g2 hT, V.tr, S.tr, eqGuard, binOp, intBits_or, opI]
        · simp [execOp, ho, q1 g1 hT, q2 g2 hT, V.tr, S.tr, eqGuard, binOp, shift_shl_any _ _ _ _ (hsh rfl), opI]
        · simp [execOp, ho, q1 g1 hT, q2 g2 hT, V.tr, S.tr, eqGuard, binOp, shift_shr_any _ _ _ _ (hsh rfl), opI]
        · obtain rfl : k1 = k2 := by
            rcases g4 with g4 | g4
            · cases g4
            · exact g4
          simp [execOp, ho, q1 g1 hT, q2 g2 hT, V.tr, S.tr, eqGuard, binOp, intBits_andNot, opI]
    · obtain ⟨hu, hr⟩ := onB_t' hr
      refine ⟨.s (.i .i64 unkN), fun cal h k => ?_, fun e f a hT => ?_⟩
      · rw [hop]; unfold syV; rw [hc, hp]; show onB (unkX op k1 k2 n m) _ none = _; rw [hu]; rfl
      · obtain ⟨u1, u2⟩ := and_t' hu
        obtain rfl := kEq_t u1
        cases n with
        | negSucc _ => cases u2
        | ofNat n' => cases m with
          | negSucc _ => cases u2
          | ofNat m' =>
            obtain ⟨u3, u4⟩ := and_t' u2
            obtain ⟨u4, u5⟩ := and_t' u4
            have hkn : kn (.ofNat n') = true := by
              have := (isY_out u3).2.1
              show Nat.blt n' unkN = true
              rw [Nat.blt_eq]; unfold symN at this; unfold unkN; omega
            have hm' : vl e (.ofNat m') = (m' : Int) := vl_pl (plN_lt u4)
            have e1 := q1 hkn hT
            have e2 := q2 (kn_word (plN_lt u4)) hT
            rw [hm'] at e2
            cases op <;> first | (cases u5; done) | skip
            · have u5 : (kEq k2 .i64 && Nat.ble 1 m' || false) = true := u5
              rw [Bool.or_false] at u5
              obtain ⟨u6, u7⟩ := and_t' u5
              obtain rfl := kEq_t u6
              have h0 : (m' : Int) ≠ 0 := by have := Nat.le_of_ble_eq_true u7; omega
              have h0n : m' ≠ 0 := by omega
              exact ⟨_, .inr (.inr (.inl ⟨rfl, _, rfl⟩)), rfl, fun w => by simp [execOp, ho, e1, e2, eqGuard, binOp, Op.intDiv, h0, h0n]; rfl⟩
            · exact ⟨_, .inr (.inr (.inl ⟨rfl, _, rfl⟩)), rfl, fun w => by simp [execOp, ho, e1, e2, eqGuard, binOp, shift_shr_any _ _ _ _ (show (0 : Int) ≤ (m' : Int) by omega)]; rfl⟩
theorem pure_bin {op : BinOp} {T U : TypeId} {x y : Operand} {x' y' : O} (ho : o.op = .binOp op T x y U) (hx : compX Y x = some x') (hy : compX Y y = some y') : Pure Y P o (.bin op x' y') := by
  intro cal t h k r hr
  obtain ⟨k1, n, hn, hr⟩ := asI_some (show asI (ev t x') _ = some r from hr)
  obtain ⟨k2, m, hm, hr⟩ := asI_some (show asI (ev t y') _ = some r from hr)
  have hop : ∀ cal h k, exJ (.bin op x' y') cal t h k = binV0 op k1 k2 n m fun v => k v h := fun cal h k => by
    show asI (ev t x') _ = _
    rw [hn]; show asI (ev t y') _ = _
    rw [hm]; exact binV_eq op k1 k2 n m _
  have hr : binV0 op k1 k2 n m (fun v => k v h) = some r := by rw [← binV_eq]; exact hr
  have hSx : x ∈ o.op.operands := by simp [ho, Op.operands]
  have hSy : y ∈ o.op.operands := by simp [ho, Op.operands]
  rcases onB_some (show onB (and (reB n) (reB m)) _ _ = some r from hr) with ⟨hb, hr⟩ | ⟨hb, hr⟩
  · obtain ⟨hbn, hbm⟩ := and_t hb
    obtain ⟨hk, hr⟩ := onB_t hr
    have hop2 : ∀ cal h k, exJ (.bin op x' y') cal t h k = binK op k1 k2 n m fun v => k v h := fun cal h k => by
      rw [hop]
      show onB (and (reB n) (reB m)) (onB (or (shiftB op) (kEq k1 k2)) _ none) _ = _
      rw [hb, hk]; rfl
    have q1 : ∀ {e : Env} {f : Pth → Bool} {a : Act}, OT Y e t f a (· ∈ o.op.operands) → a.eval x = .int k1 n := fun hT => ev_i hT hSx hx hn hbn
    have q2 : ∀ {e : Env} {f : Pth → Bool} {a : Act}, OT Y e t f a (· ∈ o.op.operands) → a.eval y = .int k2 m := fun hT => ev_i hT hSy hy hm hbm
    have ln := reB_lt hbn
    have lm := reB_lt hbm
    cases op
    case add =>
      obtain rfl : k1 = k2 := kEq_t hk
      exact ⟨.s (.i k1 (k1.wrap (n + m))), fun cal h k => (hop2 cal h k).trans (binK_add _ _ _ _ _), fun e f a hT => ⟨_, .mk _, rfl, fun w => by simp [execOp, ho, q1 hT, q2 hT, V.tr, S.tr, eqGuard, binOp, Op.intArith, vl_lt (wrap_lt k1 _)]⟩⟩
    case sub =>
      obtain rfl : k1 = k2 := kEq_t hk
      exact ⟨.s (.i k1 (k1.wrap (n - m))), fun cal h k => (hop2 cal h k).trans (binK_sub _ _ _ _ _), fun e f a hT => ⟨_, .mk _, rfl, fun w => by simp [execOp, ho, q1 hT, q2 hT, V.tr, S.tr, eqGuard, binOp, Op.intArith, vl_lt (wrap_lt k1 _)]⟩⟩
    case mul =>
      obtain rfl : k1 = k2 := kEq_t hk
      exact ⟨.s (.i k1 (k1.wrap (n * m))), fun cal h k => (hop2 cal h k).trans (binK_mul _ _ _ _ _), fun e f a hT => ⟨_, .mk _, rfl, fun w => by simp [execOp, ho, q1 hT, q2 hT, V.tr, S.tr, eqGuard, binOp, Op.intArith, vl_lt (wrap_lt k1 _)]⟩⟩
    case quo =>
      obtain rfl : k1 = k2 := kEq_t hk
      rcases onB_some (show onB (eqF m 0) none _ = some r from hr) with ⟨_, h0⟩ | ⟨h0, _⟩
      · cases h0
      have hm0 : m ≠ 0 := by rw [eqF_eq] at h0; simpa using h0
      exact ⟨.s (.i k1 (k1.wrap (n.tdiv m))), fun cal h k => (hop2 cal h k).trans (binK_quo _ _ _ _ _ h0), fun e f a hT => ⟨_, .mk _, rfl, fun w => by simp [execOp, ho, q1 hT, q2 hT, V.tr, S.tr, eqGuard, binOp, Op.intDiv, hm0, vl_lt (wrap_lt k1 _)]⟩⟩
    case rem =>
      obtain rfl : k1 = k2 := kEq_t hk
      rcases onB_some (show onB (eqF m 0) none _ = some r from hr) with ⟨_, h0⟩ | ⟨h0, _⟩
      · cases h0
      have hm0 : m ≠ 0 := by rw [eqF_eq] at h0; simpa using h0
      exact ⟨.s (.i k1 (n.tmod m)), fun cal h k => (hop2 cal h k).trans (binK_rem _ _ _ _ _ h0), fun e f a hT => ⟨_, .mk _, rfl, fun w => by simp [execOp, ho, q1 hT, q2 hT, V.tr, S.tr, eqGuard, binOp, Op.intDiv, hm0, vl_lt (tmod_lt n m ln)]⟩⟩
    case and =>
      obtain rfl : k1 = k2 := kEq_t hk
      exact ⟨.s (.i k1 (bits .and k1 n m)), fun cal h k => (hop2 cal h k).trans (binK_and _ _ _ _ _), fun e f a hT => ⟨_, .mk _, rfl, fun w => by simp [execOp, ho, q1 hT, q2 hT, V.tr, S.tr, eqGuard, binOp, intBits_and, vl_lt (bits_lt _ _ _ _)]⟩⟩
    case or =>
      obtain rfl : k1 = k2 := kEq_t hk
      exact ⟨.s (.i k1 (bits .or k1 n m)), fun cal h k => (hop2 cal h k).trans (binK_or _ _ _ _ _), fun e f a hT => ⟨_, .mk _, rfl, fun w => by simp [execOp, ho, q1 hT, q2 hT, V.tr, S.tr, eqGuard, binOp, intBits_or, vl_lt (bits_lt _ _ _ _)]⟩⟩
    case xor =>
      obtain rfl : k1 = k2 := kEq_t hk
      exact ⟨.s (.i k1 (bits .xor k1 n m)), fun cal h k => (hop2 cal h k).trans (binK_xor _ _ _ _ _), fun e f a hT => ⟨_, .mk _, rfl, fun w => by simp [execOp, ho, q1 hT, q2 hT, V.tr, S.tr, eqGuard, binOp, intBits_xor, vl_lt (bits_lt _ _ _ _)]⟩⟩
    case shl =>
      obtain ⟨h0, hr⟩ := onB_t (show onB (leF 0 m) _ none = some r from hr)
      have hm0 : 0 ≤ m := by rw [leF_eq] at h0; simpa using h0
      exact ⟨.s (.i k1 (k1.wrap (n * 2 ^ min m.toNat k1.bits))), fun cal h k => (hop2 cal h k).trans (binK_shl _ _ _ _ _ h0), fun e f a hT => ⟨_, .mk _, rfl, fun w => by simp [execOp, ho, q1 hT, q2 hT, V.tr, S.tr, eqGuard, binOp, shift_shl_any _ _ _ _ hm0, vl_lt (wrap_lt k1 _)]⟩⟩
    case shr =>
      obtain ⟨h0, hr⟩ := onB_t (show onB (leF 0 m) _ none = some r from hr)
      have hm0 : 0 ≤ m := by rw [leF_eq] at h0; simpa using h0
      have hp : (0 : Int) < 2 ^ min m.toNat k1.bits := Int.pow_pos (by omega)
      have hd : Int.fdiv n (2 ^ min m.toNat k1.bits) = n / 2 ^ min m.toNat k1.bits := Int.fdiv_eq_ediv_of_nonneg _ (Int.le_of_lt hp)
      have hl := fdiv_le n _ hp ln
      rw [hd] at hl
      exact ⟨.s (.i k1 (n / 2 ^ min m.toNat k1.bits)), fun cal h k => (hop2 cal h k).trans (binK_shr _ _ _ _ _ h0), fun e f a hT => ⟨_, .mk _, rfl, fun w => by simp [execOp, ho, q1 hT, q2 hT, V.tr, S.tr, eqGuard, binOp, shift_shr_any _ _ _ _ hm0, vl_lt hl]⟩⟩
    case andNot =>
      obtain rfl : k1 = k2 := kEq_t hk
      exact ⟨.s (.i k1 (bits .andNot k1 n m)), fun cal h k => (hop2 cal h k).trans (binK_andNot _ _ _ _ _), fun e f a hT => ⟨_, .mk _, rfl, fun w => by simp [execOp, ho, q1 hT, q2 hT, V.tr, S.tr, eqGuard, binOp, intBits_andNot, vl_lt (bits_lt _ _ _ _)]⟩⟩
    case eql =>
      obtain rfl : k1 = k2 := kEq_t hk
      exact ⟨.s (.b (n == m)), fun cal h k => (hop2 cal h k).trans (binK_eql _ _ _ _ _), fun e f a hT => ⟨_, .mk _, rfl, fun w => by simp [execOp, ho, q1 hT, q2 hT, V.tr, S.tr, eqGuard, binOp, Op.intCmp]⟩⟩
    case neq =>
      obtain rfl : k1 = k2 := kEq_t hk
      exact ⟨.s (.b (n != m)), fun cal h k => (hop2 cal h k).trans (binK_neq _ _ _ _ _), fun e f a hT => ⟨_, .mk _, rfl, fun w => by simp [execOp, ho, q1 hT, q2 hT, V.tr, S.tr, eqGuard, binOp, Op.intCmp]⟩⟩
    case lss =>
      obtain rfl : k1 = k2 := kEq_t hk
      exact ⟨.s (.b (decide (n < m))), fun cal h k => (hop2 cal h k).trans (binK_lss _ _ _ _ _), fun e f a hT => ⟨_, .mk _, rfl, fun w => by simp [execOp, ho, q1 hT, q2 hT, V.tr, S.tr, eqGuard, binOp, Op.intCmp]⟩⟩
    case leq =>
      obtain rfl : k1 = k2 := kEq_t hk
      exact ⟨.s (.b (decide (n ≤ m))), fun cal h k => (hop2 cal h k).trans (binK_leq _ _ _ _ _), fun e f a hT => ⟨_, .mk _, rfl, fun w => by simp [execOp, ho, q1 hT, q2 hT, V.tr, S.tr, eqGuard, binOp, Op.intCmp]⟩⟩
    case gtr =>
      obtain rfl : k1 = k2 := kEq_t hk
      exact ⟨.s (.b (decide (n > m))), fun cal h k => (hop2 cal h k).trans (binK_gtr _ _ _ _ _), fun e f a hT => ⟨_, .mk _, rfl, fun w => by simp [execOp, ho, q1 hT, q2 hT, V.tr, S.tr, eqGuard, binOp, Op.intCmp]⟩⟩
    case geq =>
      obtain rfl : k1 = k2 := kEq_t hk
      exact ⟨.s (.b (decide (n ≥ m))), fun cal h k => (hop2 cal h k).trans (binK_geq _ _ _ _ _), fun e f a hT => ⟨_, .mk _, rfl, fun w => by simp [execOp, ho, q1 hT, q2 hT, V.tr, S.tr, eqGuard, binOp, Op.intCmp]⟩⟩
  · have hop2 : ∀ cal h k, exJ (.bin op x' y') cal t h k = onB (and (eqB op) (and (kEq k1 k2) (and (kn n) (eqF n m)))) (k (.s (.b true)) h) (onB (and (adB op) (and (kEq k1 .i64) (and (kEq k2 .i64) (or (Bool.not (kn n)) (Bool.not (kn m)))))) (k (.s (.i .i64 unkN)) h) (syV op k1 k2 n m fun v => k v h)) := fun cal h k => by
      rw [hop]
      show onB (and (reB n) (reB m)) _ _ = _
      rw [hb]; rfl
    rcases onB_some hr with ⟨hb, hr⟩ | ⟨hb2, hr⟩
    · obtain ⟨b1, b2⟩ := and_t hb
      obtain ⟨g2, g3⟩ := and_t b2
      obtain ⟨g4, g5⟩ := and_t g3
      obtain rfl := kEq_t g2
      have : n = m := by rw [eqF_eq] at g5; simpa using g5
      subst this
      cases op <;> first | (cases b1; done) | skip
      refine ⟨.s (.b true), fun cal h k => by rw [hop2, hb]; rfl, fun e f a hT => ⟨_, .mk _, rfl, fun w => ?_⟩⟩
      have q1 := (ev_eq hT hSx hx hn (by simp) g4).1
      have q2 := (ev_eq hT hSy hy hm (by simp) g4).1
      simp [execOp, ho, q1, q2, V.tr, S.tr, eqGuard, binOp, Op.intCmp]
    · rcases onB_or hr with ⟨hb3, hr⟩ | ⟨hb3, hr⟩
      rotate_left
      · exact bin_sy ho hx hy hn hm (fun cal h k => by rw [hop2, hb2]; show onB (and (adB op) _) _ _ = _; rw [hb3]; rfl) hr
      obtain ⟨b1, b2⟩ := and_t hb3
      obtain ⟨b2, b3⟩ := and_t b2
      obtain ⟨b3, b4⟩ := and_t b3
      obtain rfl := kEq_t b2
      obtain rfl := kEq_t b3
      refine ⟨.s (.i .i64 unkN), fun cal h k => by rw [hop2, hb2]; show onB (and (adB op) _) _ _ = _; rw [hb3]; rfl, fun e f a hT => ?_⟩
      obtain ⟨n1, q1⟩ := ev_int hT hSx hx hn
      obtain ⟨m1, q2⟩ := ev_int hT hSy hy hm
      cases op <;> first | (cases b1; done) | skip
      · exact ⟨_, .inr (.inr (.inl ⟨rfl, _, rfl⟩)), rfl, fun w => by simp [execOp, ho, q1, q2, eqGuard, binOp, Op.intArith]; rfl⟩
      · exact ⟨_, .inr (.inr (.inl ⟨rfl, _, rfl⟩)), rfl, fun w => by simp [execOp, ho, q1, q2, eqGuard, binOp, Op.intArith]; rfl⟩
theorem pure_eqb {q : Bool} {T U : TypeId} {x y : Operand} {x' y' : O} (ho : o.op = .binOp (if q then .neq else .eql) T x y U) (hu : P.underlying T = some .bool) (hx : compX Y x = some x') (hy : compX Y y = some y') : Pure Y P o (.eqb q x' y') := by
  intro cal t h k r hr
  obtain ⟨b, hb, hr⟩ := asB_some (show asB (ev t x') _ = some r from hr)
  obtain ⟨c, hc, hr⟩ := asB_some (show asB (ev t y') _ = some r from hr)
  refine ⟨.s (.b (if q then !(b == c) else b == c)), fun cal h k => ?_, fun e f a hT => ?_⟩
  · show asB (ev t x') _ = _
    rw [hb]; show asB (ev t y') _ = _
    rw [hc]; cases q <;> cases b <;> cases c <;> rfl
  have h1 := (ev_eq hT (x := x) (by simp [ho, Op.operands]) hx hb (by simp) rfl).1
  have h2 := (ev_eq hT (x := y) (by simp [ho, Op.operands]) hy hc (by simp) rfl).1
  refine ⟨_, .mk _, rfl, fun w => ?_⟩
  cases q
  · simp [execOp, ho, h1, h2, V.tr, S.tr, eqGuard_at_bool, run_eql_bool, hu]
  · simp [execOp, ho, h1, h2, V.tr, S.tr, eqGuard_at_bool, run_neq_bool, hu]
theorem equalIn_sl {T e : TypeId} (hu : P.underlying T = some (.slice e)) (w : World) (d : Nat) (b : Option Addr) (n c : Nat) :
    (Op.equalIn (d + 1) T (.slice b n c) (.slice none 0 0)).run P w = .ok b.isNone w := by
  cases b <;> simp [Op.equalIn, run_underlying hu]
theorem run_eql_sl {T e : TypeId} (hu : P.underlying T = some (.slice e)) (w : World) (b : Option Addr) (n c : Nat) :
    (binOp .eql T (.slice b n c) (.slice none 0 0)).run P w = .ok (.bool b.isNone) w := by
  have h := equalIn_sl hu w 9999 b n c
  show ((Op.equalIn 10000 T (.slice b n c) (.slice none 0 0)) >>= fun r => Pure.pure (Value.bool r)).run P w = _
  rw [Sem.run_bind, h]; rfl
theorem run_neq_sl {T e : TypeId} (hu : P.underlying T = some (.slice e)) (w : World) (b : Option Addr) (n c : Nat) :
    (binOp .neq T (.slice b n c) (.slice none 0 0)).run P w = .ok (.bool (!b.isNone)) w := by
  have h := equalIn_sl hu w 9999 b n c
  show ((Op.equalIn 10000 T (.slice b n c) (.slice none 0 0)) >>= fun r => Pure.pure (Value.bool (!r))).run P w = _
  rw [Sem.run_bind, h]; rfl
theorem eqn_out {kd : Nat} {q : Bool} {x' : O} {cal : Cal} {t : T} {h : Hp} {k : KV} {r : RES} (hr : exJ (.eqn kd q x') cal t h k = some r) :
    ∃ s b, ev t x' = .s s ∧ nilB kd s = some b ∧ ∀ cal h k, exJ (.eqn kd q x') cal t h k = k (.s (.b (if q then !b else b))) h := by
  obtain ⟨s, hs, hr⟩ := asS_some (show asS (ev t x') _ = some r from hr)
  obtain ⟨b, hb, hr⟩ := onO_some (show onO (nilB kd s) _ = some r from hr)
  refine ⟨s, b, hs, hb, fun cal h k => ?_⟩
  show asS (ev t x') _ = _
  rw [hs]; show onO (nilB kd s) _ = _
  rw [hb]; cases q <;> cases b <;> rfl
theorem nilK_some {y : Operand} {n : Nat} (h : nilK y = some n) : (y = .const (.pointer none) ∧ n = 0) ∨ (y = .const (.slice none 0 0) ∧ n = 1) ∨ (y = .const (.map none) ∧ n = 2) ∨ (y = .const .nilFunc ∧ n = 3) := by
  unfold nilK at h
  split at h <;> cases h <;> simp
theorem pure_eqn_ptr {q : Bool} {T U e : TypeId} {x y : Operand} {x' : O} (ho : o.op = .binOp (if q then .neq else .eql) T x y U)
    (hu : P.underlying T = some (.pointer e)) (hn : nilK y = some 0) (hx : compX Y x = some x') : Pure Y P o (.eqn 0 q x') := by
  intro cal t h k r hr
  obtain ⟨s, b, hs, hb, hk⟩ := eqn_out hr
  refine ⟨_, hk, fun en f a hT => ⟨_, .mk _, rfl, fun w => ?_⟩⟩
  have hy : y = .const (.pointer none) := by rcases nilK_some hn with ⟨h, _⟩ | ⟨_, h⟩ | ⟨_, h⟩ | ⟨_, h⟩ <;> first | exact h | cases h
  have hp : P.underlying T = some (.pointer (P.pointee T)) := by simp [Program.pointee, hu]
  have hyv : a.eval (.const (.pointer none)) = .pointer none := rfl
  cases s <;> first | (cases hb; done) | skip
  all_goals
    cases hb
    have hv := (ev_eq hT (x := x) (by simp [ho, Op.operands]) hx hs (by simp) rfl).1
    simp only [V.tr, S.tr] at hv
    cases q <;> simp [execOp, ho, hv, hy, hyv, V.tr, S.tr, eqGuard_at_pointer, run_eql_pointer_nil _ _ _ hp, run_neq_pointer_nil _ _ _ hp]
theorem pure_eqn_sl {q : Bool} {T U e : TypeId} {x y : Operand} {x' : O} (ho : o.op = .binOp (if q then .neq else .eql) T x y U)
    (hu : P.underlying T = some (.slice e)) (hn : nilK y = some 1) (hx : compX Y x = some x') : Pure Y P o (.eqn 1 q x') := by
  intro cal t h k r hr
  obtain ⟨s, b, hs, hb, hk⟩ := eqn_out hr
  refine ⟨_, hk, fun en f a hT => ⟨_, .mk _, rfl, fun w => ?_⟩⟩
  have hy : y = .const (.slice none 0 0) := by rcases nilK_some hn with ⟨_, h⟩ | ⟨h, _⟩ | ⟨_, h⟩ | ⟨_, h⟩ <;> first | exact h | cases h
  have hyv : a.eval (.const (.slice none 0 0)) = .slice none 0 0 := rfl
  cases s <;> first | (cases hb; done) | skip
  all_goals
    cases hb
    have hv := (ev_eq hT (x := x) (by simp [ho, Op.operands]) hx hs (by simp) rfl).1
    simp only [V.tr, S.tr] at hv
    cases q <;> simp [execOp, ho, hv, hy, hyv, V.tr, S.tr, eqGuard_at_slice, run_eql_sl hu, run_neq_sl hu]
theorem equalIn_mp {T kt et : TypeId} (hu : P.underlying T = some (.map kt et)) (w : World) (d : Nat) (b : Option Nat) : (Op.equalIn (d + 1) T (.map b) (.map none)).run P w = .ok b.isNone w := by cases b <;> simp [Op.equalIn, run_underlying hu]
theorem run_eql_mp {T kt et : TypeId} (hu : P.underlying T = some (.map kt et)) (w : World) (b : Option Nat) :
    (binOp .eql T (.map b) (.map none)).run P w = .ok (.bool b.isNone) w ∧ (binOp .neq T (.map b) (.map none)).run P w = .ok (.bool (!b.isNone)) w := by
  have h := equalIn_mp hu w 9999 b
  constructor
  · show ((Op.equalIn 10000 T (.map b) (.map none)) >>= fun r => Pure.pure (Value.bool r)).run P w = _
    rw [Sem.run_bind, h]; rfl
  · show ((Op.equalIn 10000 T (.map b) (.map none)) >>= fun r => Pure.pure (Value.bool (!r))).run P w = _
    rw [Sem.run_bind, h]; rfl
theorem pure_eqn_mp {q : Bool} {T U kt et : TypeId} {x y : Operand} {x' : O} (ho : o.op = .binOp (if q then .neq else .eql) T x y U)
    (hu : P.underlying T = some (.map kt et)) (hn : nilK y = some 2) (hx : compX Y x = some x') : Pure Y P o (.eqn 2 q x') := by
  intro cal t h k r hr
  obtain ⟨s, b, hs, hb, hk⟩ := eqn_out hr
  refine ⟨_, hk, fun en f a hT => ⟨_, .mk _, rfl, fun w => ?_⟩⟩
  have hy : y = .const (.map none) := by rcases nilK_some hn with ⟨_, h⟩ | ⟨_, h⟩ | ⟨h, _⟩ | ⟨_, h⟩ <;> first | exact h | cases h
  have hyv : a.eval (.const (.map none)) = .map none := rfl
  cases s <;> first | (cases hb; done) | skip
  all_goals
    cases hb
    have hv := (ev_eq hT (x := x) (by simp [ho, Op.operands]) hx hs (by simp) rfl).1
    simp only [V.tr, S.tr] at hv
    cases q <;> simp [execOp, ho, hv, hy, hyv, V.tr, S.tr, eqGuard_at_map, (run_eql_mp hu _ _).1, (run_eql_mp hu _ _).2]
theorem equalIn_fn {T : TypeId} {a1 : Array TypeId} {a2 : Array TypeId} {a3 : Bool} (hu : P.underlying T = some (.func a1 a2 a3)) (w : World) (d : Nat) {v : Value} {b : Bool} (hv : (v = .nilFunc ∧ b = true) ∨ (b = false ∧ ∃ g a c, v = .func g a c)) : (Op.equalIn (d + 1) T v .nilFunc).run P w = .ok b w := by
  rcases hv with ⟨rfl, rfl⟩ | ⟨rfl, g, a, c, rfl⟩ <;> simp [Op.equalIn, run_underlying hu]
theorem run_eql_fn {T : TypeId} {a1 : Array TypeId} {a2 : Array TypeId} {a3 : Bool} (hu : P.underlying T = some (.func a1 a2 a3)) (w : World) {v : Value} {b : Bool} (hv : (v = .nilFunc ∧ b = true) ∨ (b = false ∧ ∃ g a c, v = .func g a c)) :
    (binOp .eql T v .nilFunc).run P w = .ok (.bool b) w ∧ (binOp .neq T v .nilFunc).run P w = .ok (.bool (!b)) w := by
  have h := equalIn_fn hu w 9999 hv
  rcases hv with ⟨rfl, rfl⟩ | ⟨rfl, g, a, c, rfl⟩
  · constructor
    · show ((Op.equalIn 10000 T .nilFunc .nilFunc) >>= fun r => Pure.pure (Value.bool r)).run P w = _
      rw [Sem.run_bind, h]; rfl
    · show ((Op.equalIn 10000 T .nilFunc .nilFunc) >>= fun r => Pure.pure (Value.bool (!r))).run P w = _
      rw [Sem.run_bind, h]; rfl
  · constructor
    · show ((Op.equalIn 10000 T (.func g a c) .nilFunc) >>= fun r => Pure.pure (Value.bool r)).run P w = _
      rw [Sem.run_bind, h]; rfl
    · show ((Op.equalIn 10000 T (.func g a c) .nilFunc) >>= fun r => Pure.pure (Value.bool (!r))).run P w = _
      rw [Sem.run_bind, h]; rfl
theorem pure_eqn_fn {q : Bool} {T U : TypeId} {a1 : Array TypeId} {a2 : Array TypeId} {a3 : Bool} {x y : Operand} {x' : O} (ho : o.op = .binOp (if q then .neq else .eql) T x y U)
    (hu : P.underlying T = some (.func a1 a2 a3)) (hn : nilK y = some 3) (hx : compX Y x = some x') : Pure Y P o (.eqn 3 q x') := by
  intro cal t h k r hr
  obtain ⟨s, b, hs, hb, hk⟩ := eqn_out hr
  refine ⟨_, hk, fun en f a hT => ⟨_, .mk _, rfl, fun w => ?_⟩⟩
  have hy : y = .const .nilFunc := by rcases nilK_some hn with ⟨_, h⟩ | ⟨_, h⟩ | ⟨_, h⟩ | ⟨h, _⟩ <;> first | exact h | cases h
  have hyv : a.eval (.const .nilFunc) = .nilFunc := rfl
  have key : ∀ v, a.eval x = v → ((v = .nilFunc ∧ b = true) ∨ (b = false ∧ ∃ g a c, v = .func g a c)) → (execOp a.eval o).run P w = .ok (.value (V.tr en (.s (.b (if q then !b else b))))) w := fun v h1 h2 => by
    have := run_eql_fn hu w h2
    have hg : eqGuard (if q then .neq else .eql) T x y v .nilFunc = Pure.pure () := by
      rcases h2 with ⟨rfl, _⟩ | ⟨_, g, a, c, rfl⟩
      · exact eqGuard_at_nilFunc ..
      · exact eqGuard_at_func ..
    cases q
    · simp only [Bool.false_eq_true, if_false] at ho hg ⊢
      simp [execOp, ho, h1, hy, hyv, V.tr, S.tr, this.1, (hy ▸ hg : eqGuard .eql T x (.const .nilFunc) v .nilFunc = Pure.pure ())]
    · simp only [if_true] at ho hg ⊢
      simp [execOp, ho, h1, hy, hyv, V.tr, S.tr, this.2, (hy ▸ hg : eqGuard .neq T x (.const .nilFunc) v .nilFunc = Pure.pure ())]
  cases s <;> first | (cases hb; done) | skip
  all_goals
    cases hb
    have hv := (ev_eq hT (x := x) (by simp [ho, Op.operands]) hx hs (by simp) rfl).1
    simp only [V.tr, S.tr] at hv
    refine key _ hv ?_
    first | exact .inl ⟨rfl, rfl⟩ | exact .inr ⟨rfl, _, _, _, rfl⟩
end
def sub (xs : List S) (o n : Nat) : List S := (xs.drop o).take n
theorem sub_get {xs : List S} {o n i : Nat} (hi : i < n) : (sub xs o n)[i]? = xs[o + i]? := by
  simp [sub, List.getElem?_take, List.getElem?_drop, hi]
theorem sub_length {xs : List S} {o n : Nat} (h : o + n ≤ xs.length) : (sub xs o n).length = n := by
  simp [sub]; omega
theorem sub_split (xs : List S) (o n m : Nat) : sub xs o (n + m) = sub xs o n ++ sub xs (o + n) m := by
  simp only [sub]
  rw [List.take_add, List.drop_drop]
theorem sub_all {xs : List S} {n : Nat} (h : xs.length = n) : sub xs 0 n = xs := by
  subst h; simp [sub]
theorem cmpSs_cons {k : Bool} {ks : List Bool} {x y : S} {a b : List S} (h : cmpSs (k :: ks) (x :: a) (y :: b) = true) :
    ((k = true ∧ ∃ j m n, x = .i j m ∧ y = .i j n) ∨ (k = false ∧ ∃ p q, x = .b p ∧ y = .b q)) ∧ cmpSs ks a b = true := by
  have h := and_t (b := cmpSs ks a b) h
  refine ⟨?_, h.2⟩
  have h := h.1
  cases x <;> first | (cases h; done) | skip
  · cases k
    · cases y <;> first | (cases h; done) | exact .inr ⟨rfl, _, _, rfl, rfl⟩
    · cases h
  · cases k
    · cases h
    · cases y <;> first | (cases h; done) | skip
      obtain rfl := kEq_t h
      exact .inl ⟨rfl, _, _, _, rfl, rfl⟩
theorem cmpSs_length : ∀ {ks : List Bool} {a b : List S}, cmpSs ks a b = true → a.length = ks.length ∧ b.length = ks.length
  | [], [], [], _ => ⟨rfl, rfl⟩
  | k :: ks, x :: a, y :: b, h => by
    have := cmpSs_length (cmpSs_cons h).2
    simp [this.1, this.2]
  | [], [], _ :: _, h => by cases h
  | [], _ :: _, _, h => by cases h
  | _ :: _, [], _, h => by cases h
  | _ :: _, _ :: _, [], h => by cases h
theorem cmpSs_append : ∀ (ks js : List Bool) (a b c d : List S), a.length = ks.length → c.length = ks.length → cmpSs (ks ++ js) (a ++ b) (c ++ d) = true → cmpSs ks a c = true ∧ cmpSs js b d = true
  | [], js, [], b, [], d, _, _, h => ⟨rfl, h⟩
  | k :: ks, js, x :: a, b, y :: c, d, h, h', hc => by
    have h1 := and_t (b := cmpSs (ks ++ js) (a ++ b) (c ++ d)) hc
    have h2 := cmpSs_append ks js a b c d (by simpa using h) (by simpa using h') h1.2
    refine ⟨?_, h2.2⟩
    have h3 := h1.1
    show and _ (cmpSs ks a c) = true
    rw [h2.1, Bool.and_true]
    exact h3
  | [], _, _ :: _, _, _, _, h, _, _ => by simp at h
  | [], _, [], _, _ :: _, _, _, h, _ => by simp at h
  | _ :: _, _, [], _, _, _, h, _, _ => by simp at h
  | _ :: _, _, _ :: _, _, [], _, _, h, _ => by simp at h
theorem eqSs_cons {x y : S} {a b : List S} {q : Bool} (h : eqSs (x :: a) (y :: b) = some q) : ∃ p r, eqS1 x y = some p ∧ eqSs a b = some r ∧ q = (p && r) := by
  obtain ⟨p, h1, h⟩ := onO_some (show onO (eqS1 x y) (fun p => onO (eqSs a b) fun q => some (and p q)) = some q from h)
  obtain ⟨r, h2, h⟩ := onO_some h
  exact ⟨p, r, h1, h2, (Option.some.inj h).symm⟩
theorem eqSs_append : ∀ (a b c d : List S) (q : Bool), a.length = c.length → eqSs (a ++ b) (c ++ d) = some q → ∃ p r, eqSs a c = some p ∧ eqSs b d = some r ∧ q = (p && r)
  | [], b, [], d, q, _, h => ⟨true, q, rfl, h, by simp⟩
  | x :: a, b, y :: c, d, q, hl, h => by
    obtain ⟨p, r, h1, h2, rfl⟩ := eqSs_cons (show eqSs (x :: (a ++ b)) (y :: (c ++ d)) = some q from h)
    obtain ⟨p', r', i1, i2, rfl⟩ := eqSs_append a b c d r (by simpa using hl) h2
    refine ⟨p && p', r', ?_, i2, by rw [Bool.and_assoc]⟩
    show onO (eqS1 x y) (fun p => onO (eqSs a c) fun q => some (and p q)) = _
    rw [h1, e_o, i1, e_o]
  | [], _, _ :: _, _, _, h, _ => by simp at h
  | _ :: _, _, [], _, _, h, _ => by simp at h
noncomputable def repr (e : Env) (n : Option Nat) (xs : List S) : Value :=
  match n with
  | none => (xs.headD .np).tr e
  | some _ => .agg (trs e xs)
section
variable {Y : Lay} {P : Program} {o : Oper}
theorem flat_shape {d : Nat} {T : TypeId} {l : List Bool} (h : flat P d T = some l) : ∃ m, shapeOf P T = some m ∧ (m = none → l.length = 1) ∧ (∀ k, m = some k → k = l.length) ∧ P.cellsOf T = l.length := by
  cases d with
  | zero => simp [flat] at h
  | succ d =>
    unfold flat at h
    split at h
    · rename_i i k hi hu
      split at h
      · rename_i hs; cases h; exact ⟨none, by simp [shapeOf, hi, hu], fun _ => rfl, (fun k hk => by cases hk), by simp [Program.cellsOf, hi, hs]⟩
      · cases h
    · rename_i i hi hu
      split at h
      · rename_i hs; cases h; exact ⟨none, by simp [shapeOf, hi, hu], fun _ => rfl, (fun k hk => by cases hk), by simp [Program.cellsOf, hi, hs]⟩
      · cases h
    · rename_i i fs hi hu
      split at h
      · cases h
      · split at h
        · rename_i m hm
          split at h
          · rename_i he; cases h; exact ⟨some i.size, by simp [shapeOf, hi, hu], (fun hk => by cases hk), (fun k hk => by cases hk; exact he), by simp [Program.cellsOf, hi, he]⟩
          · cases h
        · cases h
    · rename_i i a e hi hu
      split at h
      · rename_i m hm
        split at h
        · rename_i he; cases h; exact ⟨some i.size, by simp [shapeOf, hi, hu], (fun hk => by cases hk), (fun k hk => by cases hk; exact he), by simp [Program.cellsOf, hi, he]⟩
        · cases h
      · cases h
    · cases h
theorem run_part_flat {d : Nat} {T : TypeId} {l : List Bool} (hf : flat P d T = some l) (w : World) (e : Env) (xs : List S) (off : Nat) (hlen : off + l.length ≤ xs.length) :
    ∃ m, shapeOf P T = some m ∧ (part T (trs e xs) off).run P w = .ok (repr e m (sub xs off l.length)) w := by
  obtain ⟨m, hm, h1, h2, _⟩ := flat_shape hf
  refine ⟨m, hm, ?_⟩
  cases m with
  | none =>
    have hl := h1 rfl
    rw [hl] at hlen ⊢
    have hg : xs[off]? = some (xs[off]'(by omega)) := List.getElem?_eq_getElem (by omega)
    rw [run_part_none w hm e xs off hg]
    have : sub xs off 1 = [xs[off]'(by omega)] := by
      apply List.ext_getElem?
      intro i
      by_cases hi : i < 1
      · rw [sub_get hi]; obtain rfl : i = 0 := by omega
        simp [hg]
      · rw [List.getElem?_eq_none (by rw [sub_length hlen]; omega), List.getElem?_eq_none (by simp; omega)]
    simp [repr, this]
  | some k =>
    obtain rfl := h2 k rfl
    simp [repr, run_part_some w hm e xs off, sub]
def EqFlat (P : Program) (d : Nat) : Prop := ∀ (T : TypeId) (l : List Bool) (m : Option Nat) (D : Nat) (w : World) (e : Env) (xs ys : List S) (q : Bool), flat P d T = some l → shapeOf P T = some m → d ≤ D →
  cmpSs l xs ys = true → eqSs xs ys = some q → (Op.equalIn D T (repr e m xs) (repr e m ys)).run P w = .ok q w
theorem eqFields_flat {d : Nat} (IH : EqFlat P d) {D : Nat} (hD : d ≤ D) (w : World) (e : Env) (xs ys : List S) : ∀ (fs : List Field) (o : Nat) (l : List Bool) (q : Bool), flatFs (flat P d) fs o = some l → o + l.length ≤ xs.length → o + l.length ≤ ys.length →
    cmpSs l (sub xs o l.length) (sub ys o l.length) = true → eqSs (sub xs o l.length) (sub ys o l.length) = some q → (Op.eqFields D (trs e xs) (trs e ys) fs).run P w = .ok q w
  | [], o, l, q, hf, _, _, _, hq => by
    simp only [flatFs, Option.some.injEq] at hf
    subst hf
    have : q = true := by
      have hq : eqSs [] [] = some q := by simpa [sub] using hq
      exact (Option.some.inj hq).symm
    subst this
    simp [Op.eqFields]
  | f :: fs, o, l, q, hf, hx, hy, hc, hq => by
    simp only [flatFs] at hf
    split at hf
    · rename_i hno
      obtain ⟨hname, hoff⟩ := hno
      cases hm : flat P d f.type with
      | none => simp [hm] at hf
      | some k =>
        cases hr : flatFs (flat P d) fs (o + k.length) with
        | none => simp [hm, hr] at hf
        | some l' =>
        simp only [hm, hr, Option.some.injEq] at hf
        subst hf
        simp only [List.length_append] at hx hy hc hq
        rw [sub_split, sub_split] at hc hq
        have hl1 : (sub xs o k.length).length = k.length := sub_length (by omega)
        have hl2 : (sub ys o k.length).length = k.length := sub_length (by omega)
        have hc := cmpSs_append _ _ _ _ _ _ hl1 hl2 hc
        obtain ⟨q1, q2, hq1, hq2, rfl⟩ := eqSs_append _ _ _ _ _ (by rw [hl1, hl2]) hq
        obtain ⟨m, hsm, p1⟩ := run_part_flat hm w e xs o (by omega)
        obtain ⟨m', hsm', p2⟩ := run_part_flat hm w e ys o (by omega)
        obtain rfl : m = m' := by rw [hsm] at hsm'; cases hsm'; rfl
        have p3 := IH f.type k m D w e (sub xs o k.length) (sub ys o k.length) q1 hm hsm hD hc.1 hq1
        have ih := eqFields_flat IH hD w e xs ys fs (o + k.length) l' q2 hr (by omega) (by omega) hc.2 hq2
        subst hoff
        simp only [Op.eqFields, hname, ne_eq, not_false_eq_true, if_true, Sem.run_bind, p1, p2, p3, Result.andThen_ok]
        cases q1
        · simp
        · simpa using ih
    · cases hf
theorem eqItems_flat {d : Nat} (IH : EqFlat P d) {D : Nat} (hD : d ≤ D) (w : World) (en : Env) (xs ys : List S) {e : TypeId} {k : List Bool} (hk : flat P d e = some k) : ∀ (len i : Nat) (q : Bool), i * k.length + (rep k len).length ≤ xs.length → i * k.length + (rep k len).length ≤ ys.length →
    cmpSs (rep k len) (sub xs (i * k.length) (rep k len).length) (sub ys (i * k.length) (rep k len).length) = true → eqSs (sub xs (i * k.length) (rep k len).length) (sub ys (i * k.length) (rep k len).length) = some q →
    (Op.eqItems D e (P.cellsOf e) (trs en xs) (trs en ys) (List.range' i len)).run P w = .ok q w
  | 0, i, q, _, _, _, hq => by
    have : q = true := by
      have hq : eqSs [] [] = some q := by simpa [sub, rep] using hq
      exact (Option.some.inj hq).symm
    subst this
    simp [Op.eqItems]
  | len + 1, i, q, hx, hy, hc, hq => by
    obtain ⟨_, _, _, _, hcell⟩ := flat_shape hk
    simp only [rep, List.length_append] at hx hy hc hq
    have e2 : i * k.length + k.length = (i + 1) * k.length := by rw [Nat.add_mul, Nat.one_mul]
    rw [sub_split, sub_split, e2] at hc hq
    have hl1 : (sub xs (i * k.length) k.length).length = k.length := sub_length (by omega)
    have hl2 : (sub ys (i * k.length) k.length).length = k.length := sub_length (by omega)
    have hc := cmpSs_append _ _ _ _ _ _ hl1 hl2 hc
    obtain ⟨q1, q2, hq1, hq2, rfl⟩ := eqSs_append _ _ _ _ _ (by rw [hl1, hl2]) hq
    obtain ⟨m, hsm, p1⟩ := run_part_flat hk w en xs (i * k.length) (by omega)
    obtain ⟨m', hsm', p2⟩ := run_part_flat hk w en ys (i * k.length) (by omega)
    obtain rfl : m = m' := by rw [hsm] at hsm'; cases hsm'; rfl
    have p3 := IH e k m D w en (sub xs (i * k.length) k.length) (sub ys (i * k.length) k.length) q1 hk hsm hD hc.1 hq1
    have ih := eqItems_flat IH hD w en xs ys hk len (i + 1) q2 (by omega) (by omega) hc.2 hq2
    simp only [List.range'_succ, Op.eqItems, hcell, Sem.run_bind, p1, p2, p3, Result.andThen_ok]
    rw [hcell] at ih
    cases q1
    · simp
    · simpa using ih
theorem eqS1_i {k j : IntKind} {a b : Int} {q : Bool} (h : eqS1 (.i k a) (.i j b) = some q) (e : Env) : k = j ∧ q = (vl e a == vl e b) := by
  rcases onB_or (show onB (and (kEq k j) (and (reB a) (reB b))) (some (eqF a b)) (syB .eql k j a b) = some q from h) with ⟨hb, h⟩ | ⟨_, h⟩
  · obtain ⟨b1, b2⟩ := and_t hb
    obtain ⟨b2, b3⟩ := and_t b2
    exact ⟨kEq_t b1, by rw [reB_vl e b2, reB_vl e b3, ← Option.some.inj h, eqF_eq]; rfl⟩
  · obtain ⟨_, h1, _, _, h2⟩ := syB_ok (e := e) h
    exact ⟨h1, h2⟩
theorem eqFlat : ∀ d, EqFlat P d
  | 0 => fun T n m D w e xs ys q h => by simp [flat] at h
  | d + 1 => fun T n m D w e xs ys q h hm hD hc hq => by
    have IH := eqFlat d
    obtain ⟨hx, hy⟩ := cmpSs_length hc
    obtain ⟨D, rfl⟩ : ∃ D', D = D' + 1 := ⟨D - 1, by omega⟩
    unfold flat at h
    split at h
    · rename_i i k hi hu
      split at h
      · cases h
        obtain rfl : m = none := by simp only [shapeOf, hi, hu, Option.some.injEq] at hm; exact hm.symm
        obtain ⟨x, rfl⟩ := List.length_eq_one_iff.1 hx
        obtain ⟨y, rfl⟩ := List.length_eq_one_iff.1 hy
        obtain ⟨⟨_, j, a, b, rfl, rfl⟩ | ⟨h0, _⟩, _⟩ := cmpSs_cons hc
        · obtain ⟨p, r, h1, h2, rfl⟩ := eqSs_cons hq
          have : r = true := (Option.some.inj h2).symm
          subst this
          obtain ⟨_, rfl⟩ := eqS1_i h1 e
          simp [repr, S.tr, Op.equalIn, run_underlying hu]
        · cases h0
      · cases h
    · rename_i i hi hu
      split at h
      · cases h
        obtain rfl : m = none := by simp only [shapeOf, hi, hu, Option.some.injEq] at hm; exact hm.symm
        obtain ⟨x, rfl⟩ := List.length_eq_one_iff.1 hx
        obtain ⟨y, rfl⟩ := List.length_eq_one_iff.1 hy
        obtain ⟨⟨h0, _⟩ | ⟨_, a, b, rfl, rfl⟩, _⟩ := cmpSs_cons hc
        · cases h0
        · obtain ⟨p, r, h1, h2, rfl⟩ := eqSs_cons hq
          have : r = true := (Option.some.inj h2).symm
          subst this
          have : p = (a == b) := by cases a <;> cases b <;> exact (Option.some.inj h1).symm
          subst this
          simp [repr, S.tr, Op.equalIn, run_underlying hu]
      · cases h
    · rename_i i fs hi hu
      split at h
      · cases h
      · rename_i hst
        split at h
        · rename_i m' hm'
          split at h
          · rename_i he
            cases h
            obtain rfl : m = some i.size := by simp only [shapeOf, hi, hu, Option.some.injEq] at hm; exact hm.symm
            have hfo : P.fieldsOf T = fs := by simp [Program.fieldsOf, hu]
            have := eqFields_flat IH (D := D) (by omega) w e xs ys fs.toList 0 n q hm' (by omega) (by omega) (by rw [sub_all hx, sub_all hy]; exact hc) (by rw [sub_all hx, sub_all hy]; exact hq)
            simp only [repr]
            rw [run_equalIn_struct w D T _ _ (by rw [hfo]; exact hu) (by simpa using hst), hfo, this]
          · cases h
        · cases h
    · rename_i i a el hi hu
      split at h
      · rename_i k hk
        split at h
        · rename_i he
          cases h
          obtain rfl : m = some i.size := by simp only [shapeOf, hi, hu, Option.some.injEq] at hm; exact hm.symm
          obtain ⟨me, hme, _, _, _⟩ := flat_shape hk
          have hie : ∃ ie, P.info? el = some ie := by
            unfold shapeOf at hme; split at hme <;> first | exact ⟨_, by assumption⟩ | cases hme
          obtain ⟨ie, hie⟩ := hie
          have := eqItems_flat IH (D := D) (by omega) w e xs ys hk a 0 q (by omega) (by omega) (by rw [Nat.zero_mul, sub_all hx, sub_all hy]; exact hc) (by rw [Nat.zero_mul, sub_all hx, sub_all hy]; exact hq)
          simp only [repr]
          rw [run_equalIn_array w D _ _ hu hie, List.range_eq_range', this]
        · cases h
      · cases h
    · cases h
theorem pure_eqa {q : Bool} {T U : TypeId} {x y : Operand} {x' y' : O} {l : List Bool} (ho : o.op = .binOp (if q then .neq else .eql) T x y U)
    (hs : (∃ fs, P.underlying T = some (.struct fs)) ∨ ∃ n e, P.underlying T = some (.array n e)) (hf : flat P 20 T = some l) (hg : P.eqGuardType P.depth T = false)
    (hx : compX Y x = some x') (hy : compX Y y = some y') : Pure Y P o (.eqa q l x' y') := by
  intro cal t h k r hr
  obtain ⟨xs, h1, hr⟩ := asA_some (show asA (ev t x') _ = some r from hr)
  obtain ⟨ys, h2, hr⟩ := asA_some (show asA (ev t y') _ = some r from hr)
  obtain ⟨hc, hr⟩ := onB_t hr
  obtain ⟨b, hb, hr⟩ := onO_some hr
  refine ⟨.s (.b (if q then !b else b)), fun cal h k => ?_, fun e f a hT => ⟨_, .mk _, rfl, fun w => ?_⟩⟩
  · show asA (ev t x') _ = _
    simp only [h1, h2, e_asA, hc, e_t, hb, e_o, rQ_eq]
    cases q <;> rfl
  · have hv := (ev_eq hT (x := x) (by simp [ho, Op.operands]) hx h1 (by simp) rfl).1
    have hw := (ev_eq hT (x := y) (by simp [ho, Op.operands]) hy h2 (by simp) rfl).1
    simp only [V.tr] at hv hw
    have hm : ∃ k, shapeOf P T = some (some k) := by
      obtain ⟨m, hm, _, _⟩ := flat_shape hf
      cases hi : P.info? T with
      | none => simp [shapeOf, hi] at hm
      | some i => rcases hs with ⟨fs, hs⟩ | ⟨n, e, hs⟩ <;> exact ⟨i.size, by simp [shapeOf, hi, hs]⟩
    obtain ⟨k, hm⟩ := hm
    have := eqFlat 20 T l (some k) 10000 w e xs ys b hf hm (by omega) hc hb
    simp only [repr] at this
    cases q
    · simp [execOp, ho, hv, hw, V.tr, S.tr, run_eqGuard_agg w _ _ _ _ _ _ hg, run_eql_struct, this]
    · simp [execOp, ho, hv, hw, V.tr, S.tr, run_eqGuard_agg w _ _ _ _ _ _ hg, run_neq_struct, this]
end
end Go.E
