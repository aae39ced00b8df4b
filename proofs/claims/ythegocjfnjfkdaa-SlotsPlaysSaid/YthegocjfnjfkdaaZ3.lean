/- Package slots: which slots may be, where. -/
import Derived.Laws.BitsLemmas
import Derived.Laws.Bits64b
import Derived.Lib.EndianBits
import Derived.Test.YthegocjfnjfkdaaZ1
import Derived.Test.YthegocjfnjfkdaaZ2
/- Fields of 64 bits, as numbers. -/
namespace Go.D
set_option linter.all false

theorem c_div (a k : Nat) : ((a / 2 ^ k : Nat) : Int) = (a : Int) / 2 ^ k := by
  rw [Int.natCast_ediv, Int.natCast_pow]; rfl
theorem c_mul (a k : Nat) : ((a * 2 ^ k : Nat) : Int) = (a : Int) * 2 ^ k := by
  rw [Int.natCast_mul, Int.natCast_pow]; rfl
theorem c_mod (a m : Nat) : ((a % m : Nat) : Int) = (a : Int) % (m : Int) := Int.natCast_emod a m

theorem nat_and_field (w k n : Nat) : w &&& ((2 ^ n - 1) * 2 ^ k) = w / 2 ^ k % 2 ^ n * 2 ^ k := by
  apply Nat.eq_of_testBit_eq
  intro i
  rw [Nat.testBit_and, Nat.testBit_mul_two_pow, Nat.testBit_mul_two_pow, Nat.testBit_two_pow_sub_one, Nat.testBit_mod_two_pow, Nat.testBit_div_two_pow]
  by_cases h : k ≤ i
  · have e : i - k + k = i := by omega
    simp only [h, decide_true, Bool.true_and, e]
    rw [Bool.and_comm]
  · simp [h]

/-- A word with a field of noughts. -/
def clr (w k n : Nat) : Nat := 2 ^ (k + n) * (w / 2 ^ (k + n)) + w % 2 ^ k

theorem clr_testBit (w k n i : Nat) : (clr w k n).testBit i = (w.testBit i && !(decide (k ≤ i) && decide (i < k + n))) := by
  unfold clr
  have hlt : w % 2 ^ k < 2 ^ (k + n) := Nat.lt_of_lt_of_le (Nat.mod_lt _ (Nat.two_pow_pos k)) (Nat.pow_le_pow_right (by decide) (by omega))
  rw [Nat.testBit_two_pow_mul_add _ hlt, Nat.testBit_mod_two_pow, Nat.testBit_div_two_pow]
  by_cases h1 : i < k + n
  · by_cases h2 : k ≤ i
    · simp [h1, h2]; intro h; omega
    · have : i < k := by omega
      simp [h1, h2, this]
  · have h2 : k ≤ i := by omega
    have e : i - (k + n) + (k + n) = i := by omega
    simp [h1, h2, e]

theorem bits_andNot_u64 (a b : Nat) (ha : a < 18446744073709551616) (hb : b < 18446744073709551616) (r : Nat) (h : ∀ i, i < 64 → r.testBit i = (a.testBit i && !b.testBit i)) (hr : r < 18446744073709551616) : bits .andNot .u64 a b = (r : Int) := by
  simp only [bits, BitVec.ofInt_natCast]
  have : (BitVec.ofNat IntKind.u64.bits a &&& ~~~BitVec.ofNat IntKind.u64.bits b).toNat = r := by
    apply Nat.eq_of_testBit_eq
    intro i
    by_cases hi : i < 64
    · rw [BitVec.toNat_and, Nat.testBit_and, BitVec.testBit_toNat, BitVec.testBit_toNat, BitVec.getLsbD_not, h i hi]
      have h1 : (BitVec.ofNat IntKind.u64.bits a).getLsbD i = a.testBit i := by
        rw [BitVec.getLsbD_ofNat]; simp [IntKind.bits, hi]
      have h2 : (BitVec.ofNat IntKind.u64.bits b).getLsbD i = b.testBit i := by
        rw [BitVec.getLsbD_ofNat]; simp [IntKind.bits, hi]
      rw [h1, h2]
      simp [IntKind.bits, hi]
    · have h1 : r.testBit i = false := Nat.testBit_lt_two_pow (Nat.lt_of_lt_of_le hr (by
        calc 18446744073709551616 = 2 ^ 64 := by decide
          _ ≤ 2 ^ i := Nat.pow_le_pow_right (by decide) (by omega)))
      rw [h1]
      refine Nat.testBit_lt_two_pow (Nat.lt_of_lt_of_le (BitVec.isLt _) ?_)
      exact Nat.pow_le_pow_right (by decide) (by show 64 ≤ i; omega)
  rw [this]
  exact wraps_u64 _ (by omega) (by omega)

theorem pow_le64 {k n : Nat} (h : k + n ≤ 64) : 2 ^ (k + n) ≤ 18446744073709551616 := by
  calc 2 ^ (k + n) ≤ 2 ^ 64 := Nat.pow_le_pow_right (by decide) h
    _ = 18446744073709551616 := by decide

theorem mask_lt {k n : Nat} (h : k + n ≤ 64) : (2 ^ n - 1) * 2 ^ k < 18446744073709551616 := by
  have h1 := pow_le64 h
  have h2 : (2 ^ n - 1) * 2 ^ k < 2 ^ n * 2 ^ k := Nat.mul_lt_mul_of_pos_right (by have := Nat.two_pow_pos n; omega) (Nat.two_pow_pos k)
  rw [← Nat.pow_add, Nat.add_comm n k] at h2
  omega

theorem mask_testBit (k n i : Nat) : ((2 ^ n - 1) * 2 ^ k).testBit i = (decide (k ≤ i) && decide (i < k + n)) := by
  rw [Nat.testBit_mul_two_pow, Nat.testBit_two_pow_sub_one]
  by_cases h : k ≤ i
  · simp only [h, decide_true, Bool.true_and]
    congr 1
    rw [eq_iff_iff]; omega
  · simp [h]

/-- The mask of a field. -/
theorem u64_mask {k n : Nat} (h : k + n ≤ 64) : IntKind.u64.wrap (18446744073709551615 / 2 ^ (64 - n) * 2 ^ k) = (((2 ^ n - 1) * 2 ^ k : Nat) : Int) := by
  have e : (18446744073709551615 : Nat) / 2 ^ (64 - n) = 2 ^ n - 1 := by
    have h1 : 2 ^ n * 2 ^ (64 - n) = 18446744073709551616 := by
      rw [← Nat.pow_add]
      have : n + (64 - n) = 64 := by omega
      rw [this]
    have hp := Nat.two_pow_pos (64 - n)
    have hn := Nat.two_pow_pos n
    apply Nat.div_eq_of_lt_le
    · rw [Nat.sub_mul, Nat.one_mul, h1]; omega
    · rw [Nat.sub_add_cancel hn, h1]; omega
  have e2 : (18446744073709551615 / 2 ^ (64 - n) * 2 ^ k : Int) = (((18446744073709551615 : Nat) / 2 ^ (64 - n) * 2 ^ k : Nat) : Int) := by
    rw [c_mul, c_div]; rfl
  rw [e2, e]
  exact wraps_u64 _ (by omega) (by have := mask_lt h; omega)

theorem u64_get {k n w : Nat} (hw : w < 18446744073709551616) (h : k + n ≤ 64) : bits .and .u64 (w : Int) (((2 ^ n - 1) * 2 ^ k : Nat) : Int) / 2 ^ k = ((w / 2 ^ k % 2 ^ n : Nat) : Int) := by
  rw [bits_and_u64_nat w _ hw (mask_lt h), nat_and_field]
  have : ((w / 2 ^ k % 2 ^ n * 2 ^ k : Nat) : Int) / 2 ^ k = ((w / 2 ^ k % 2 ^ n * 2 ^ k / 2 ^ k : Nat) : Int) := (c_div _ _).symm
  rw [this, Nat.mul_div_cancel _ (Nat.two_pow_pos k)]

theorem u64_clr {k n w : Nat} (hw : w < 18446744073709551616) (h : k + n ≤ 64) : bits .andNot .u64 (w : Int) (((2 ^ n - 1) * 2 ^ k : Nat) : Int) = ((clr w k n : Nat) : Int) := by
  refine bits_andNot_u64 w _ hw (mask_lt h) _ (fun i _ => by rw [clr_testBit, mask_testBit]) ?_
  unfold clr
  have h1 := Nat.div_add_mod w (2 ^ (k + n))
  have h2 : w % 2 ^ k ≤ w % 2 ^ (k + n) := by
    rw [Nat.pow_add, Nat.mod_mul]
    omega
  omega

/-- Does a number fit? -/
theorem u64_fits {k n v : Nat} (hv : v < 18446744073709551616) (h : k + n ≤ 64) :
    (IntKind.u64.wrap ((v : Int) * 2 ^ k) / 2 ^ k = (v : Int) ∧ bits .andNot .u64 (IntKind.u64.wrap ((v : Int) * 2 ^ k)) (((2 ^ n - 1) * 2 ^ k : Nat) : Int) = 0) ↔ v < 2 ^ n := by
  have ew : IntKind.u64.wrap ((v : Int) * 2 ^ k) = ((v * 2 ^ k % 18446744073709551616 : Nat) : Int) := by
    rw [IntKind.wrap_u64, c_mod, c_mul]; rfl
  have hlt : v * 2 ^ k % 18446744073709551616 < 18446744073709551616 := Nat.mod_lt _ (by decide)
  rw [ew, u64_clr hlt h]
  have ed : ((v * 2 ^ k % 18446744073709551616 : Nat) : Int) / 2 ^ k = ((v * 2 ^ k % 18446744073709551616 / 2 ^ k : Nat) : Int) := (c_div _ _).symm
  rw [ed]
  have hk := Nat.two_pow_pos k
  have h64 := pow_le64 h
  rw [Nat.pow_add] at h64
  constructor
  · rintro ⟨h1, h2⟩
    have h1 : v * 2 ^ k % 18446744073709551616 / 2 ^ k = v := by exact_mod_cast h1
    have h2 : clr (v * 2 ^ k % 18446744073709551616) k n = 0 := by exact_mod_cast h2
    have h3 : v * 2 ^ k < 18446744073709551616 := by
      rcases Nat.lt_or_ge (v * 2 ^ k) 18446744073709551616 with h | h
      · exact h
      · have h4 : v * 2 ^ k % 18446744073709551616 < v * 2 ^ k := Nat.lt_of_lt_of_le (Nat.mod_lt _ (by decide)) h
        have := (Nat.div_lt_iff_lt_mul hk).2 h4
        omega
    rw [Nat.mod_eq_of_lt h3] at h2
    unfold clr at h2
    have h5 : 2 ^ (k + n) * (v * 2 ^ k / 2 ^ (k + n)) = 0 := by omega
    have h6 : v * 2 ^ k / 2 ^ (k + n) = 0 := by
      rcases Nat.mul_eq_zero.1 h5 with h | h
      · exact absurd h (Nat.pos_iff_ne_zero.1 (Nat.two_pow_pos _))
      · exact h
    have h7 : v * 2 ^ k < 2 ^ (k + n) := by
      rcases Nat.div_eq_zero_iff.1 h6 with h | h
      · exact absurd h (Nat.pos_iff_ne_zero.1 (Nat.two_pow_pos _))
      · exact h
    rw [Nat.add_comm k n, Nat.pow_add] at h7
    exact Nat.lt_of_mul_lt_mul_right h7
  · intro hvn
    have h3 : v * 2 ^ k < 2 ^ k * 2 ^ n := by
      rw [Nat.mul_comm (2 ^ k)]; exact Nat.mul_lt_mul_of_pos_right hvn hk
    have h4 : v * 2 ^ k < 18446744073709551616 := by omega
    rw [Nat.mod_eq_of_lt h4, Nat.mul_div_cancel _ hk]
    refine ⟨rfl, ?_⟩
    unfold clr
    rw [← Nat.pow_add] at h3
    rw [Nat.div_eq_of_lt h3, Nat.mul_mod_left]; rfl

/-- A number laid into a field. -/
theorem u64_set {k n v w : Nat} (hw : w < 18446744073709551616) (hv : v < 2 ^ n) (h : k + n ≤ 64) :
    bits .or .u64 (bits .andNot .u64 (w : Int) (((2 ^ n - 1) * 2 ^ k : Nat) : Int)) (IntKind.u64.wrap ((v : Int) * 2 ^ k)) = ((2 ^ (k + n) * (w / 2 ^ (k + n)) + (2 ^ k * v + w % 2 ^ k) : Nat) : Int) := by
  have hk := Nat.two_pow_pos k
  have h64 := pow_le64 h
  have h3 : 2 ^ k * v < 2 ^ (k + n) := by
    rw [Nat.pow_add]; exact Nat.mul_lt_mul_of_pos_left hv hk
  have hr : w % 2 ^ k < 2 ^ k := Nat.mod_lt _ hk
  have ew : IntKind.u64.wrap ((v : Int) * 2 ^ k) = ((2 ^ k * v : Nat) : Int) := by
    rw [Nat.mul_comm, ← c_mul]
    exact wraps_u64 _ (by omega) (by have : v * 2 ^ k = 2 ^ k * v := Nat.mul_comm _ _; omega)
  have hc : clr w k n < 18446744073709551616 := by
    unfold clr
    have h1 := Nat.div_add_mod w (2 ^ (k + n))
    have h2 : w % 2 ^ k ≤ w % 2 ^ (k + n) := by
      rw [Nat.pow_add, Nat.mod_mul]
      omega
    omega
  have hin : 2 ^ k * v + w % 2 ^ k < 2 ^ (k + n) := by
    have : 2 ^ k * (v + 1) ≤ 2 ^ k * 2 ^ n := Nat.mul_le_mul_left _ hv
    rw [← Nat.pow_add, Nat.mul_add] at this
    omega
  rw [u64_clr hw h, ew, bits_or_u64_nat _ _ hc (by omega)]
  congr 1
  apply Nat.eq_of_testBit_eq
  intro i
  rw [Nat.testBit_or, clr_testBit, Nat.testBit_two_pow_mul_add _ hin, Nat.testBit_two_pow_mul_add _ hr, Nat.testBit_mod_two_pow, Nat.testBit_div_two_pow]
  have e : (2 ^ k * v).testBit i = (decide (k ≤ i) && v.testBit (i - k)) := by
    rw [Nat.mul_comm, Nat.testBit_mul_two_pow]
  rw [e]
  by_cases h1 : i < k + n
  · by_cases h2 : k ≤ i
    · have : ¬ i < k := by omega
      simp [h1, h2, this]
    · have : i < k := by omega
      simp [h1, h2, this]
  · have h2 : k ≤ i := by omega
    have e2 : i - (k + n) + (k + n) = i := by omega
    have e3 : v.testBit (i - k) = false := Nat.testBit_lt_two_pow (Nat.lt_of_lt_of_le hv (Nat.pow_le_pow_right (by decide) (by omega)))
    simp [h1, h2, e2, e3]

end Go.D

/- Package word: what its functions answer. -/
namespace Go.Proofs.Ythegocjfnjfkdaa
open Go.D
set_option linter.all false
set_option maxRecDepth 100000
set_option maxHeartbeats 4000000

/-- What a loop's counter tells. -/
theorem idx {i n : Nat} (h : i < n) (hn : n ≤ 9223372036854775807) : ((i : Int) < (n : Int)) ∧ ((0 : Int) ≤ i) ∧ ¬ ((i : Int) < 0) ∧ IntKind.i64.wrap ((i : Int) + 1) = ((i + 1 : Nat) : Int) := by
  refine ⟨by omega, by omega, by omega, ?_⟩
  rw [wrap64] <;> omega

/-- A word. -/
def u64 (w : Int) : Prop := 0 ≤ w ∧ w < 18446744073709551616
theorem u64.nat {w : Int} (h : u64 w) : ∃ n : Nat, w = n ∧ n < 18446744073709551616 := ⟨w.toNat, by have := h.1; omega, by have := h.1; have := h.2; omega⟩
theorem u64_of {n : Nat} (h : n < 18446744073709551616) : u64 n := ⟨by omega, by omega⟩

/-- May there be a field? -/
def fieldB (at_ n : Int) : Bool := decide (0 ≤ at_ ∧ at_ ≤ 63 ∧ 1 ≤ n ∧ n ≤ 64 - at_)
def maskV (at_ n : Int) : Int := (((2 ^ n.toNat - 1) * 2 ^ at_.toNat : Nat) : Int)
def getV (w at_ n : Int) : Int := ((w.toNat / 2 ^ at_.toNat % 2 ^ n.toNat : Nat) : Int)
def setB (at_ n v : Int) : Bool := fieldB at_ n && decide (v.toNat < 2 ^ n.toNat)
def setV (w at_ n v : Int) : Int := ((2 ^ (at_.toNat + n.toNat) * (w.toNat / 2 ^ (at_.toNat + n.toNat)) + (2 ^ at_.toNat * v.toNat + w.toNat % 2 ^ at_.toNat) : Nat) : Int)

theorem fieldB_nat {at_ n : Int} (h : fieldB at_ n = true) : ∃ k m : Nat, at_ = k ∧ n = m ∧ k ≤ 63 ∧ 1 ≤ m ∧ k + m ≤ 64 := by
  simp only [fieldB, decide_eq_true_eq] at h
  exact ⟨at_.toNat, n.toNat, by omega, by omega, by omega, by omega, by omega⟩

def maskG : List V → List Blk → Res
  | [.s (.i .i64 at_), .s (.i .i64 n)], h => .br (fieldB at_ n) (.ok (.tup [.s (.i .u64 (maskV at_ n)), .s (.b true)]) [] h) (.ok (.tup [.s (.i .u64 0), .s (.b false)]) [] h)
  | _, _ => .bad

theorem mask_snd : Snd Try.prog 96 (FSpec.of maskG) := snd_run (noT_snd _) mixed Try.func96 dc96 100 fun args h K _ hS => by
  unfold maskG at hS
  split at hS
  · rename_i at_ n
    simp only [spec_br, spec_ok] at hS
    cases hf : fieldB at_ n with
    | true =>
      have hS := hS.1 hf
      obtain ⟨k, m, rfl, rfl, h1, h2, h3⟩ := fieldB_nat hf
      have c1 : ¬ ((k : Int) < 0) := by omega
      have c2 : ¬ ((63 : Int) < k) := by omega
      have c3 : ¬ ((m : Int) < 1) := by omega
      have c4 : ¬ ((64 : Int) - k < m) := by omega
      have w1 : IntKind.i64.wrap (64 - (k : Int)) = 64 - k := wrap64 (by omega) (by omega)
      have w2 : IntKind.i64.wrap (64 - (m : Int)) = ((64 - m : Nat) : Int) := by rw [wrap64] <;> omega
      have m1 : min (64 - m) IntKind.u64.bits = 64 - m := by show min (64 - m) 64 = _; omega
      have m2 : min k IntKind.u64.bits = k := by show min k 64 = _; omega
      have hm := u64_mask (k := k) (n := m) h3
      have c5 : (0 : Int) ≤ ((64 - m : Nat) : Int) := by omega
      have c6 : (0 : Int) ≤ (k : Int) := by omega
      simp (config := { maxSteps := 10000000 }) only [EV1, EV2, EV3, EV4, EV5, EV6, addT, istep, pickR, putD, bin1R, un1R, slcR, bnd, capsOf, fillP, V.plain, V.cells, V.known, C.v, blk, setL, setH, eqS, eq1, cmpS, cmp1, isNil, popTo, killT, setT, leT, V.below, S.below, R.below, V.val, C.val, S.val, R.val, R.takes, vals, shows, unnamed, V.kill, V.names, C.names, S.names, R.names, List.set, List.replicate, ↓q_cond_t, ↓q_cond_f, if_true, if_false, reduceCtorEq, rvals, rvC, result, C.known, V.noL, C.noL, S.noL, R.noL, Option.map, true_and, and_true, ge_iff_le, gt_iff_lt, implies_true, q_ite_t, q_ite_f, beq_iff_eq, bne_iff_ne, q_ne, Nat.reduceAdd, Nat.reducePow, Int.reducePow, Nat.reduceMul, Nat.reduceSub, Nat.reduceLeDiff, Nat.reduceLT, Nat.reduceEqDiff, Int.reduceNeg, Int.reduceLT, Int.reduceLE, Int.reduceEq, Int.reduceNe, Int.reduceAdd, Int.reduceSub, Int.reduceMul, Int.reduceToNat, Int.reduceBEq, Int.reduceBNe, df96, c1, c2, c3, c4, c5, c6, w1, w2, m1, m2, hm]
      exact hS
    | false =>
      have hS := hS.2 hf
      have hn : ¬ (0 ≤ at_ ∧ at_ ≤ 63 ∧ 1 ≤ n ∧ n ≤ 64 - at_) := by simpa [fieldB] using hf
      by_cases c1 : at_ < 0
      · simp (config := { maxSteps := 10000000 }) only [EV1, EV2, EV3, EV4, EV5, EV6, addT, istep, pickR, putD, bin1R, un1R, slcR, bnd, capsOf, fillP, V.plain, V.cells, V.known, C.v, blk, setL, setH, eqS, eq1, cmpS, cmp1, isNil, popTo, killT, setT, leT, V.below, S.below, R.below, V.val, C.val, S.val, R.val, R.takes, vals, shows, unnamed, V.kill, V.names, C.names, S.names, R.names, List.set, List.replicate, ↓q_cond_t, ↓q_cond_f, if_true, if_false, reduceCtorEq, rvals, rvC, result, C.known, V.noL, C.noL, S.noL, R.noL, Option.map, true_and, and_true, ge_iff_le, gt_iff_lt, implies_true, q_ite_t, q_ite_f, beq_iff_eq, bne_iff_ne, q_ne, Nat.reduceAdd, Nat.reducePow, Int.reducePow, Nat.reduceMul, Nat.reduceSub, Nat.reduceLeDiff, Nat.reduceLT, Nat.reduceEqDiff, Int.reduceNeg, Int.reduceLT, Int.reduceLE, Int.reduceEq, Int.reduceNe, Int.reduceAdd, Int.reduceSub, Int.reduceMul, Int.reduceToNat, Int.reduceBEq, Int.reduceBNe, df96, c1]
        exact hS
      by_cases c2 : 63 < at_
      · simp (config := { maxSteps := 10000000 }) only [EV1, EV2, EV3, EV4, EV5, EV6, addT, istep, pickR, putD, bin1R, un1R, slcR, bnd, capsOf, fillP, V.plain, V.cells, V.known, C.v, blk, setL, setH, eqS, eq1, cmpS, cmp1, isNil, popTo, killT, setT, leT, V.below, S.below, R.below, V.val, C.val, S.val, R.val, R.takes, vals, shows, unnamed, V.kill, V.names, C.names, S.names, R.names, List.set, List.replicate, ↓q_cond_t, ↓q_cond_f, if_true, if_false, reduceCtorEq, rvals, rvC, result, C.known, V.noL, C.noL, S.noL, R.noL, Option.map, true_and, and_true, ge_iff_le, gt_iff_lt, implies_true, q_ite_t, q_ite_f, beq_iff_eq, bne_iff_ne, q_ne, Nat.reduceAdd, Nat.reducePow, Int.reducePow, Nat.reduceMul, Nat.reduceSub, Nat.reduceLeDiff, Nat.reduceLT, Nat.reduceEqDiff, Int.reduceNeg, Int.reduceLT, Int.reduceLE, Int.reduceEq, Int.reduceNe, Int.reduceAdd, Int.reduceSub, Int.reduceMul, Int.reduceToNat, Int.reduceBEq, Int.reduceBNe, df96, c1, c2]
        exact hS
      by_cases c3 : n < 1
      · simp (config := { maxSteps := 10000000 }) only [EV1, EV2, EV3, EV4, EV5, EV6, addT, istep, pickR, putD, bin1R, un1R, slcR, bnd, capsOf, fillP, V.plain, V.cells, V.known, C.v, blk, setL, setH, eqS, eq1, cmpS, cmp1, isNil, popTo, killT, setT, leT, V.below, S.below, R.below, V.val, C.val, S.val, R.val, R.takes, vals, shows, unnamed, V.kill, V.names, C.names, S.names, R.names, List.set, List.replicate, ↓q_cond_t, ↓q_cond_f, if_true, if_false, reduceCtorEq, rvals, rvC, result, C.known, V.noL, C.noL, S.noL, R.noL, Option.map, true_and, and_true, ge_iff_le, gt_iff_lt, implies_true, q_ite_t, q_ite_f, beq_iff_eq, bne_iff_ne, q_ne, Nat.reduceAdd, Nat.reducePow, Int.reducePow, Nat.reduceMul, Nat.reduceSub, Nat.reduceLeDiff, Nat.reduceLT, Nat.reduceEqDiff, Int.reduceNeg, Int.reduceLT, Int.reduceLE, Int.reduceEq, Int.reduceNe, Int.reduceAdd, Int.reduceSub, Int.reduceMul, Int.reduceToNat, Int.reduceBEq, Int.reduceBNe, df96, c1, c2, c3]
        exact hS
      have w1 : IntKind.i64.wrap (64 - at_) = 64 - at_ := wrap64 (by omega) (by omega)
      have c4 : 64 - at_ < n := by omega
      simp (config := { maxSteps := 10000000 }) only [EV1, EV2, EV3, EV4, EV5, EV6, addT, istep, pickR, putD, bin1R, un1R, slcR, bnd, capsOf, fillP, V.plain, V.cells, V.known, C.v, blk, setL, setH, eqS, eq1, cmpS, cmp1, isNil, popTo, killT, setT, leT, V.below, S.below, R.below, V.val, C.val, S.val, R.val, R.takes, vals, shows, unnamed, V.kill, V.names, C.names, S.names, R.names, List.set, List.replicate, ↓q_cond_t, ↓q_cond_f, if_true, if_false, reduceCtorEq, rvals, rvC, result, C.known, V.noL, C.noL, S.noL, R.noL, Option.map, true_and, and_true, ge_iff_le, gt_iff_lt, implies_true, q_ite_t, q_ite_f, beq_iff_eq, bne_iff_ne, q_ne, Nat.reduceAdd, Nat.reducePow, Int.reducePow, Nat.reduceMul, Nat.reduceSub, Nat.reduceLeDiff, Nat.reduceLT, Nat.reduceEqDiff, Int.reduceNeg, Int.reduceLT, Int.reduceLE, Int.reduceEq, Int.reduceNe, Int.reduceAdd, Int.reduceSub, Int.reduceMul, Int.reduceToNat, Int.reduceBEq, Int.reduceBNe, df96, c1, c2, c3, w1, c4]
      exact hS
  · exact hS.elim

def W1 : Tab := addT 96 maskG noT
theorem W1_snd : W1.Snd Try.prog := addT_snd ok96 mask_snd (noT_snd _)

def getG : List V → List Blk → Res
  | [.s (.i .u64 w), .s (.i .i64 at_), .s (.i .i64 n)], h => .ob (u64 w) (.br (fieldB at_ n) (.ok (.tup [.s (.i .u64 (getV w at_ n)), .s (.i .i64 0)]) [] h) (.ok (.tup [.s (.i .u64 0), .s (.i .i64 10)]) [] h))
  | _, _ => .bad

theorem get_snd : Snd Try.prog 85 (FSpec.of getG) := snd_run W1_snd mixed Try.func85 dc85 100 fun args h K _ hS => by
  unfold getG at hS
  split at hS
  · rename_i w at_ n
    obtain ⟨hw, hS⟩ := hS
    simp only [spec_br, spec_ok] at hS
    obtain ⟨w, rfl, hw'⟩ := hw.nat
    cases hf : fieldB at_ n with
    | true =>
      have hS := hS.1 hf
      obtain ⟨k, m, rfl, rfl, h1, h2, h3⟩ := fieldB_nat hf
      have m2 : min k IntKind.u64.bits = k := by show min k 64 = _; omega
      have hg := u64_get hw' h3
      have c6 : (0 : Int) ≤ (k : Int) := by omega
      simp (config := { maxSteps := 10000000 }) only [EV1, EV2, EV3, EV4, EV5, EV6, addT, istep, pickR, putD, bin1R, un1R, slcR, bnd, capsOf, fillP, V.plain, V.cells, V.known, C.v, blk, setL, setH, eqS, eq1, cmpS, cmp1, isNil, popTo, killT, setT, leT, V.below, S.below, R.below, V.val, C.val, S.val, R.val, R.takes, vals, shows, unnamed, V.kill, V.names, C.names, S.names, R.names, List.set, List.replicate, ↓q_cond_t, ↓q_cond_f, if_true, if_false, reduceCtorEq, rvals, rvC, result, C.known, V.noL, C.noL, S.noL, R.noL, Option.map, true_and, and_true, ge_iff_le, gt_iff_lt, implies_true, q_ite_t, q_ite_f, beq_iff_eq, bne_iff_ne, q_ne, Nat.reduceAdd, Nat.reducePow, Int.reducePow, Nat.reduceMul, Nat.reduceSub, Nat.reduceLeDiff, Nat.reduceLT, Nat.reduceEqDiff, Int.reduceNeg, Int.reduceLT, Int.reduceLE, Int.reduceEq, Int.reduceNe, Int.reduceAdd, Int.reduceSub, Int.reduceMul, Int.reduceToNat, Int.reduceBEq, Int.reduceBNe, df85, W1, maskG, hf, maskV, hg, m2, c6]
      exact hS
    | false =>
      have hS := hS.2 hf
      simp (config := { maxSteps := 10000000 }) only [EV1, EV2, EV3, EV4, EV5, EV6, addT, istep, pickR, putD, bin1R, un1R, slcR, bnd, capsOf, fillP, V.plain, V.cells, V.known, C.v, blk, setL, setH, eqS, eq1, cmpS, cmp1, isNil, popTo, killT, setT, leT, V.below, S.below, R.below, V.val, C.val, S.val, R.val, R.takes, vals, shows, unnamed, V.kill, V.names, C.names, S.names, R.names, List.set, List.replicate, ↓q_cond_t, ↓q_cond_f, if_true, if_false, reduceCtorEq, rvals, rvC, result, C.known, V.noL, C.noL, S.noL, R.noL, Option.map, true_and, and_true, ge_iff_le, gt_iff_lt, implies_true, q_ite_t, q_ite_f, beq_iff_eq, bne_iff_ne, q_ne, Nat.reduceAdd, Nat.reducePow, Int.reducePow, Nat.reduceMul, Nat.reduceSub, Nat.reduceLeDiff, Nat.reduceLT, Nat.reduceEqDiff, Int.reduceNeg, Int.reduceLT, Int.reduceLE, Int.reduceEq, Int.reduceNe, Int.reduceAdd, Int.reduceSub, Int.reduceMul, Int.reduceToNat, Int.reduceBEq, Int.reduceBNe, df85, W1, maskG, hf]
      exact hS
  · exact hS.elim

def setG : List V → List Blk → Res
  | [.s (.i .u64 w), .s (.i .i64 at_), .s (.i .i64 n), .s (.i .u64 v)], h => .ob (u64 w ∧ u64 v) (.br (setB at_ n v) (.ok (.tup [.s (.i .u64 (setV w at_ n v)), .s (.i .i64 0)]) [] h) (.ok (.tup [.s (.i .u64 0), .s (.i .i64 10)]) [] h))
  | _, _ => .bad

theorem set_snd : Snd Try.prog 84 (FSpec.of setG) := snd_run W1_snd mixed Try.func84 dc84 100 fun args h K _ hS => by
  unfold setG at hS
  split at hS
  · rename_i w at_ n v
    obtain ⟨⟨hw, hv⟩, hS⟩ := hS
    simp only [spec_br, spec_ok] at hS
    obtain ⟨w, rfl, hw'⟩ := hw.nat
    obtain ⟨v, rfl, hv'⟩ := hv.nat
    cases hf : fieldB at_ n with
    | true =>
      obtain ⟨k, m, rfl, rfl, h1, h2, h3⟩ := fieldB_nat hf
      have m2 : min k IntKind.u64.bits = k := by show min k 64 = _; omega
      have c6 : (0 : Int) ≤ (k : Int) := by omega
      have hfit := u64_fits hv' h3
      by_cases hlt : v < 2 ^ m
      · have hb : setB (k : Int) (m : Int) (v : Int) = true := by simp [setB, hf, hlt]
        have hS := hS.1 hb
        obtain ⟨f1, f2⟩ := hfit.2 hlt
        have hs := u64_set hw' hlt h3
        simp (config := { maxSteps := 10000000 }) only [EV1, EV2, EV3, EV4, EV5, EV6, addT, istep, pickR, putD, bin1R, un1R, slcR, bnd, capsOf, fillP, V.plain, V.cells, V.known, C.v, blk, setL, setH, eqS, eq1, cmpS, cmp1, isNil, popTo, killT, setT, leT, V.below, S.below, R.below, V.val, C.val, S.val, R.val, R.takes, vals, shows, unnamed, V.kill, V.names, C.names, S.names, R.names, List.set, List.replicate, ↓q_cond_t, ↓q_cond_f, if_true, if_false, reduceCtorEq, rvals, rvC, result, C.known, V.noL, C.noL, S.noL, R.noL, Option.map, true_and, and_true, ge_iff_le, gt_iff_lt, implies_true, q_ite_t, q_ite_f, beq_iff_eq, bne_iff_ne, q_ne, Nat.reduceAdd, Nat.reducePow, Int.reducePow, Nat.reduceMul, Nat.reduceSub, Nat.reduceLeDiff, Nat.reduceLT, Nat.reduceEqDiff, Int.reduceNeg, Int.reduceLT, Int.reduceLE, Int.reduceEq, Int.reduceNe, Int.reduceAdd, Int.reduceSub, Int.reduceMul, Int.reduceToNat, Int.reduceBEq, Int.reduceBNe, df84, W1, maskG, hf, maskV, m2, c6, f1, f2, hs]
        exact hS
      · have hb : setB (k : Int) (m : Int) (v : Int) = false := by simp [setB, hlt]
        have hS := hS.2 hb
        by_cases f1 : IntKind.u64.wrap ((v : Int) * 2 ^ k) / 2 ^ k = (v : Int)
        · have f2 : ¬ bits .andNot .u64 (IntKind.u64.wrap ((v : Int) * 2 ^ k)) (((2 ^ m - 1) * 2 ^ k : Nat) : Int) = 0 := fun e => hlt (hfit.1 ⟨f1, e⟩)
          simp (config := { maxSteps := 10000000 }) only [EV1, EV2, EV3, EV4, EV5, EV6, addT, istep, pickR, putD, bin1R, un1R, slcR, bnd, capsOf, fillP, V.plain, V.cells, V.known, C.v, blk, setL, setH, eqS, eq1, cmpS, cmp1, isNil, popTo, killT, setT, leT, V.below, S.below, R.below, V.val, C.val, S.val, R.val, R.takes, vals, shows, unnamed, V.kill, V.names, C.names, S.names, R.names, List.set, List.replicate, ↓q_cond_t, ↓q_cond_f, if_true, if_false, reduceCtorEq, rvals, rvC, result, C.known, V.noL, C.noL, S.noL, R.noL, Option.map, true_and, and_true, ge_iff_le, gt_iff_lt, implies_true, q_ite_t, q_ite_f, beq_iff_eq, bne_iff_ne, q_ne, Nat.reduceAdd, Nat.reducePow, Int.reducePow, Nat.reduceMul, Nat.reduceSub, Nat.reduceLeDiff, Nat.reduceLT, Nat.reduceEqDiff, Int.reduceNeg, Int.reduceLT, Int.reduceLE, Int.reduceEq, Int.reduceNe, Int.reduceAdd, Int.reduceSub, Int.reduceMul, Int.reduceToNat, Int.reduceBEq, Int.reduceBNe, df84, W1, maskG, hf, maskV, m2, c6, f1, f2]
          exact hS
        · simp (config := { maxSteps := 10000000 }) only [EV1, EV2, EV3, EV4, EV5, EV6, addT, istep, pickR, putD, bin1R, un1R, slcR, bnd, capsOf, fillP, V.plain, V.cells, V.known, C.v, blk, setL, setH, eqS, eq1, cmpS, cmp1, isNil, popTo, killT, setT, leT, V.below, S.below, R.below, V.val, C.val, S.val, R.val, R.takes, vals, shows, unnamed, V.kill, V.names, C.names, S.names, R.names, List.set, List.replicate, ↓q_cond_t, ↓q_cond_f, if_true, if_false, reduceCtorEq, rvals, rvC, result, C.known, V.noL, C.noL, S.noL, R.noL, Option.map, true_and, and_true, ge_iff_le, gt_iff_lt, implies_true, q_ite_t, q_ite_f, beq_iff_eq, bne_iff_ne, q_ne, Nat.reduceAdd, Nat.reducePow, Int.reducePow, Nat.reduceMul, Nat.reduceSub, Nat.reduceLeDiff, Nat.reduceLT, Nat.reduceEqDiff, Int.reduceNeg, Int.reduceLT, Int.reduceLE, Int.reduceEq, Int.reduceNe, Int.reduceAdd, Int.reduceSub, Int.reduceMul, Int.reduceToNat, Int.reduceBEq, Int.reduceBNe, df84, W1, maskG, hf, maskV, m2, c6, f1]
          exact hS
    | false =>
      have hb : setB at_ n (v : Int) = false := by simp [setB, hf]
      have hS := hS.2 hb
      simp (config := { maxSteps := 10000000 }) only [EV1, EV2, EV3, EV4, EV5, EV6, addT, istep, pickR, putD, bin1R, un1R, slcR, bnd, capsOf, fillP, V.plain, V.cells, V.known, C.v, blk, setL, setH, eqS, eq1, cmpS, cmp1, isNil, popTo, killT, setT, leT, V.below, S.below, R.below, V.val, C.val, S.val, R.val, R.takes, vals, shows, unnamed, V.kill, V.names, C.names, S.names, R.names, List.set, List.replicate, ↓q_cond_t, ↓q_cond_f, if_true, if_false, reduceCtorEq, rvals, rvC, result, C.known, V.noL, C.noL, S.noL, R.noL, Option.map, true_and, and_true, ge_iff_le, gt_iff_lt, implies_true, q_ite_t, q_ite_f, beq_iff_eq, bne_iff_ne, q_ne, Nat.reduceAdd, Nat.reducePow, Int.reducePow, Nat.reduceMul, Nat.reduceSub, Nat.reduceLeDiff, Nat.reduceLT, Nat.reduceEqDiff, Int.reduceNeg, Int.reduceLT, Int.reduceLE, Int.reduceEq, Int.reduceNe, Int.reduceAdd, Int.reduceSub, Int.reduceMul, Int.reduceToNat, Int.reduceBEq, Int.reduceBNe, df84, W1, maskG, hf]
      exact hS
  · exact hS.elim

end Go.Proofs.Ythegocjfnjfkdaa

/- Package caps: sizes, bare, in, mapped. -/
namespace Go.Proofs.Ythegocjfnjfkdaa
open Go.D
set_option linter.all false
set_option maxRecDepth 100000
set_option maxHeartbeats 4000000

/-- A cap, field by field. -/
structure Cap where
  ty : Int
  obj : Int
  bits : Int
  mark : Int
  guard : Int
  gbits : Int
  badge : Int
  rights : Int
  asid : Int
  vaddr : Int
  line : Int
def Cap.cl (c : Cap) : List S := [.i .i64 c.ty, .i .i64 c.obj, .i .i64 c.bits, .i .i64 c.mark, .i .i64 c.guard, .i .i64 c.gbits, .i .i64 c.badge, .i .i64 c.rights, .i .i64 c.asid, .i .i64 c.vaddr, .i .i64 c.line]
/-- A cap that is an only argument. -/
def capF (f : Cap → Res) : List V → Res
  | [.agg [.i .i64 a, .i .i64 b, .i .i64 c, .i .i64 d, .i .i64 e, .i .i64 g, .i .i64 i, .i .i64 j, .i .i64 k, .i .i64 l, .i .i64 m]] => f ⟨a, b, c, d, e, g, i, j, k, l, m⟩
  | _ => .bad
theorem capF_spec {f : Cap → Res} {args : List V} {K : V → List Blk → Prop} (h : (capF f args).spec K) : ∃ c : Cap, args = [.agg c.cl] ∧ (f c).spec K := by
  unfold capF at h
  split at h
  · exact ⟨_, rfl, h⟩
  · exact h.elim

theorem kinds (t : Int) : t = 0 ∨ t = 1 ∨ t = 2 ∨ t = 3 ∨ t = 4 ∨ t = 5 ∨ t = 6 ∨ t = 7 ∨ t = 8 ∨ t = 9 ∨ t = 10 ∨ t = 11 ∨ t = 12 ∨ t = 13 ∨
    (¬ t = 0 ∧ ¬ t = 1 ∧ ¬ t = 2 ∧ ¬ t = 3 ∧ ¬ t = 4 ∧ ¬ t = 5 ∧ ¬ t = 6 ∧ ¬ t = 7 ∧ ¬ t = 8 ∧ ¬ t = 9 ∧ ¬ t = 10 ∧ ¬ t = 11 ∧ ¬ t = 12 ∧ ¬ t = 13 ∧ (t < 0 ∨ 13 < t)) := by omega

def uRaw (b : Int) : Int := IntKind.i64.wrap (1 * 2 ^ min (if bits .and .i64 b 31 < 0 then 0 else bits .and .i64 b 31).toNat IntKind.i64.bits)
def nRaw (b : Int) : Int := IntKind.i64.wrap (4 * 2 ^ min (if (if 9 < b then 9 else b) < 0 then 0 else (if 9 < b then 9 else b)).toNat IntKind.i64.bits)
def nOk (b : Int) : Bool := decide (1 ≤ (if 9 < b then 9 else b)) && decide ((if 9 < b then 9 else b) ≤ 8)
def szN (c : Cap) : Int :=
  if c.ty = 1 then uRaw c.bits else if c.ty = 2 then nRaw c.bits else if c.ty = 10 then (if c.bits = 31 then 64 else nRaw c.bits)
  else if c.ty = 3 then 64 else if c.ty = 9 then 64 else if c.ty = 4 then 4 else if c.ty = 5 then 8 else if c.ty = 6 then 8 else if c.ty = 7 then 8 else if c.ty = 8 then 16 else 0
def szB (c : Cap) : Bool :=
  if c.ty = 1 then decide (4 ≤ c.bits) && decide (c.bits ≤ 15) else if c.ty = 2 then nOk c.bits else if c.ty = 10 then (if c.bits = 31 then true else nOk c.bits) else true

def nodeG : List V → List Blk → Res
  | [.s (.i .i64 b)], h => .ok (.tup [.s (.i .i64 (IntKind.i64.wrap (4 * 2 ^ min (if b < 0 then 0 else b).toNat IntKind.i64.bits))), .s (.b (decide (1 ≤ b) && decide (b ≤ 8)))]) [] h
  | _, _ => .bad
theorem if_nn (b : Int) : 0 ≤ (if b < 0 then 0 else b) := by split <;> omega
theorem node_snd : Snd Try.prog 83 (FSpec.of nodeG) := snd_run (noT_snd _) mixed Try.func83 dc83 100 fun args h K _ hS => by
  unfold nodeG at hS
  split at hS
  · rename_i b
    simp only [spec_ok] at hS
    have := if_nn b
    simp (config := { maxSteps := 10000000 }) only [EV1, EV2, EV3, EV4, EV5, EV6, addT, istep, pickR, putD, bin1R, un1R, slcR, bnd, capsOf, fillP, V.plain, V.cells, V.known, C.v, blk, setL, setH, eqS, eq1, cmpS, cmp1, isNil, popTo, killT, setT, leT, V.below, S.below, R.below, V.val, C.val, S.val, R.val, R.takes, vals, shows, unnamed, V.kill, V.names, C.names, S.names, R.names, List.set, List.replicate, ↓q_cond_t, ↓q_cond_f, if_true, if_false, reduceCtorEq, rvals, rvC, result, C.known, V.noL, C.noL, S.noL, R.noL, Option.map, true_and, and_true, ge_iff_le, gt_iff_lt, implies_true, q_ite_t, q_ite_f, beq_iff_eq, bne_iff_ne, q_ne, Nat.reduceAdd, Nat.reducePow, Int.reducePow, Nat.reduceMul, Nat.reduceSub, Nat.reduceLeDiff, Nat.reduceLT, Nat.reduceEqDiff, Int.reduceNeg, Int.reduceLT, Int.reduceLE, Int.reduceEq, Int.reduceNe, Int.reduceAdd, Int.reduceSub, Int.reduceMul, Int.reduceToNat, Int.reduceBEq, Int.reduceBNe, df83, this]
    exact hS
  · exact hS.elim

def sizesG (args : List V) (h : List Blk) : Res := capF (fun c => .ok (.tup [.s (.i .i64 (szN c)), .s (.b (szB c))]) [] h) args
def TN : Tab := addT 83 nodeG noT
theorem TN_snd : TN.Snd Try.prog := addT_snd ok83 node_snd (noT_snd _)
theorem sizes_snd : Snd Try.prog 49 (FSpec.of sizesG) := snd_run TN_snd mixed Try.func49 dc49 100 fun args h K _ hS => by
  obtain ⟨⟨t, o, b, d, e, g, i, j, k, l, m⟩, rfl, hR⟩ := capF_spec hS
  have n1 := if_nn (bits .and .i64 b 31)
  simp only [Cap.cl, spec_ok, szN, szB] at hR ⊢
  rcases kinds t with rfl | rfl | rfl | rfl | rfl | rfl | rfl | rfl | rfl | rfl | rfl | rfl | rfl | rfl | ⟨k0, k1, k2, k3, k4, k5, k6, k7, k8, k9, k10, k11, k12, k13, ho⟩
  all_goals try simp only [k1, k2, k3, k4, k5, k6, k7, k8, k9, k10, if_false] at hR
  all_goals try simp only [Int.reduceEq, if_true, if_false] at hR
  all_goals try simp (config := { maxSteps := 10000000 }) only [EV1, EV2, EV3, EV4, EV5, EV6, addT, istep, pickR, putD, bin1R, un1R, slcR, bnd, capsOf, fillP, V.plain, V.cells, V.known, C.v, blk, setL, setH, eqS, eq1, cmpS, cmp1, isNil, popTo, killT, setT, leT, V.below, S.below, R.below, V.val, C.val, S.val, R.val, R.takes, vals, shows, unnamed, V.kill, V.names, C.names, S.names, R.names, List.set, List.replicate, ↓q_cond_t, ↓q_cond_f, if_true, if_false, reduceCtorEq, rvals, rvC, result, C.known, V.noL, C.noL, S.noL, R.noL, Option.map, true_and, and_true, ge_iff_le, gt_iff_lt, implies_true, q_ite_t, q_ite_f, beq_iff_eq, bne_iff_ne, q_ne, Nat.reduceAdd, Nat.reducePow, Int.reducePow, Nat.reduceMul, Nat.reduceSub, Nat.reduceLeDiff, Nat.reduceLT, Nat.reduceEqDiff, Int.reduceNeg, Int.reduceLT, Int.reduceLE, Int.reduceEq, Int.reduceNe, Int.reduceAdd, Int.reduceSub, Int.reduceMul, Int.reduceToNat, Int.reduceBEq, Int.reduceBNe, df49, TN, nodeG, n1, k1, k2, k3, k4, k5, k6, k7, k8, k9, k10]
  all_goals try simp (config := { maxSteps := 10000000 }) only [EV1, EV2, EV3, EV4, EV5, EV6, addT, istep, pickR, putD, bin1R, un1R, slcR, bnd, capsOf, fillP, V.plain, V.cells, V.known, C.v, blk, setL, setH, eqS, eq1, cmpS, cmp1, isNil, popTo, killT, setT, leT, V.below, S.below, R.below, V.val, C.val, S.val, R.val, R.takes, vals, shows, unnamed, V.kill, V.names, C.names, S.names, R.names, List.set, List.replicate, ↓q_cond_t, ↓q_cond_f, if_true, if_false, reduceCtorEq, rvals, rvC, result, C.known, V.noL, C.noL, S.noL, R.noL, Option.map, true_and, and_true, ge_iff_le, gt_iff_lt, implies_true, q_ite_t, q_ite_f, beq_iff_eq, bne_iff_ne, q_ne, Nat.reduceAdd, Nat.reducePow, Int.reducePow, Nat.reduceMul, Nat.reduceSub, Nat.reduceLeDiff, Nat.reduceLT, Nat.reduceEqDiff, Int.reduceNeg, Int.reduceLT, Int.reduceLE, Int.reduceEq, Int.reduceNe, Int.reduceAdd, Int.reduceSub, Int.reduceMul, Int.reduceToNat, Int.reduceBEq, Int.reduceBNe, df49, TN, nodeG, n1]
  all_goals try exact hR
  · exact ⟨fun h => by simp only [h, if_true] at hR; exact hR, fun h => by simp only [h, if_false] at hR; exact hR⟩
end Go.Proofs.Ythegocjfnjfkdaa

/- Package caps: bare, in, mapped. -/
namespace Go.Proofs.Ythegocjfnjfkdaa
open Go.D
set_option linter.all false
set_option maxRecDepth 100000
set_option maxHeartbeats 4000000

def bareC (c : Cap) : Cap :=
  if c.ty = 1 then { c with obj := 0, bits := 0, mark := 0 } else if c.ty = 10 then { c with obj := 0, bits := 0, mark := 0 }
  else if c.ty = 2 then { c with obj := 0, bits := 0, guard := 0, gbits := 0 }
  else if c.ty = 3 then { c with obj := 0 } else if c.ty = 9 then { c with obj := 0 }
  else if c.ty = 4 then { c with obj := 0, rights := 0, badge := 0 } else if c.ty = 5 then { c with obj := 0, rights := 0, badge := 0 }
  else if c.ty = 6 then { c with obj := 0, asid := 0, vaddr := 0 }
  else if c.ty = 7 then { c with obj := 0, asid := 0 }
  else if c.ty = 8 then { c with obj := 0, rights := 0, asid := 0, vaddr := 0 }
  else if c.ty = 12 then { c with line := 0 } else c

def bareG (args : List V) (h : List Blk) : Res := capF (fun c => .ok (.agg (bareC c).cl) [] h) args
theorem bare_snd : Snd Try.prog 50 (FSpec.of bareG) := snd_run (noT_snd _) mixed Try.func50 dc50 100 fun args h K _ hS => by
  obtain ⟨⟨t, o, b, d, e, g, i, j, k, l, m⟩, rfl, hR⟩ := capF_spec hS
  simp only [Cap.cl, spec_ok, bareC] at hR ⊢
  rcases kinds t with rfl | rfl | rfl | rfl | rfl | rfl | rfl | rfl | rfl | rfl | rfl | rfl | rfl | rfl | ⟨k0, k1, k2, k3, k4, k5, k6, k7, k8, k9, k10, k11, k12, k13, ho⟩
  all_goals try simp only [k1, k2, k3, k4, k5, k6, k7, k8, k9, k10, k12, if_false] at hR
  all_goals try simp only [Int.reduceEq, if_true, if_false] at hR
  all_goals try simp (config := { maxSteps := 10000000 }) only [EV1, EV2, EV3, EV4, EV5, EV6, addT, istep, pickR, putD, bin1R, un1R, slcR, bnd, capsOf, fillP, V.plain, V.cells, V.known, C.v, blk, setL, setH, eqS, eq1, cmpS, cmp1, isNil, popTo, killT, setT, leT, V.below, S.below, R.below, V.val, C.val, S.val, R.val, R.takes, vals, shows, unnamed, V.kill, V.names, C.names, S.names, R.names, List.set, List.replicate, ↓q_cond_t, ↓q_cond_f, if_true, if_false, reduceCtorEq, rvals, rvC, result, C.known, V.noL, C.noL, S.noL, R.noL, Option.map, true_and, and_true, ge_iff_le, gt_iff_lt, implies_true, q_ite_t, q_ite_f, beq_iff_eq, bne_iff_ne, q_ne, Nat.reduceAdd, Nat.reducePow, Int.reducePow, Nat.reduceMul, Nat.reduceSub, Nat.reduceLeDiff, Nat.reduceLT, Nat.reduceEqDiff, Int.reduceNeg, Int.reduceLT, Int.reduceLE, Int.reduceEq, Int.reduceNe, Int.reduceAdd, Int.reduceSub, Int.reduceMul, Int.reduceToNat, Int.reduceBEq, Int.reduceBNe, df50, k1, k2, k3, k4, k5, k6, k7, k8, k9, k10, k12, put]
  all_goals try simp (config := { maxSteps := 10000000 }) only [EV1, EV2, EV3, EV4, EV5, EV6, addT, istep, pickR, putD, bin1R, un1R, slcR, bnd, capsOf, fillP, V.plain, V.cells, V.known, C.v, blk, setL, setH, eqS, eq1, cmpS, cmp1, isNil, popTo, killT, setT, leT, V.below, S.below, R.below, V.val, C.val, S.val, R.val, R.takes, vals, shows, unnamed, V.kill, V.names, C.names, S.names, R.names, List.set, List.replicate, ↓q_cond_t, ↓q_cond_f, if_true, if_false, reduceCtorEq, rvals, rvC, result, C.known, V.noL, C.noL, S.noL, R.noL, Option.map, true_and, and_true, ge_iff_le, gt_iff_lt, implies_true, q_ite_t, q_ite_f, beq_iff_eq, bne_iff_ne, q_ne, Nat.reduceAdd, Nat.reducePow, Int.reducePow, Nat.reduceMul, Nat.reduceSub, Nat.reduceLeDiff, Nat.reduceLT, Nat.reduceEqDiff, Int.reduceNeg, Int.reduceLT, Int.reduceLE, Int.reduceEq, Int.reduceNe, Int.reduceAdd, Int.reduceSub, Int.reduceMul, Int.reduceToNat, Int.reduceBEq, Int.reduceBNe, df50, put]
  all_goals try exact hR

def inV (n most : Int) : Bool := decide (0 ≤ n) && decide (n ≤ most)
def inG : List V → List Blk → Res
  | [.s (.i .i64 n), .s (.i .i64 m)], h => .ok (.s (.b (inV n m))) [] h
  | _, _ => .bad
theorem in_snd : Snd Try.prog 51 (FSpec.of inG) := snd_run (noT_snd _) mixed Try.func51 dc51 100 fun args h K _ hS => by
  unfold inG at hS
  split at hS
  · simp only [spec_ok, inV] at hS
    simp (config := { maxSteps := 10000000 }) only [EV1, EV2, EV3, EV4, EV5, EV6, addT, istep, pickR, putD, bin1R, un1R, slcR, bnd, capsOf, fillP, V.plain, V.cells, V.known, C.v, blk, setL, setH, eqS, eq1, cmpS, cmp1, isNil, popTo, killT, setT, leT, V.below, S.below, R.below, V.val, C.val, S.val, R.val, R.takes, vals, shows, unnamed, V.kill, V.names, C.names, S.names, R.names, List.set, List.replicate, ↓q_cond_t, ↓q_cond_f, if_true, if_false, reduceCtorEq, rvals, rvC, result, C.known, V.noL, C.noL, S.noL, R.noL, Option.map, true_and, and_true, ge_iff_le, gt_iff_lt, implies_true, q_ite_t, q_ite_f, beq_iff_eq, bne_iff_ne, q_ne, Nat.reduceAdd, Nat.reducePow, Int.reducePow, Nat.reduceMul, Nat.reduceSub, Nat.reduceLeDiff, Nat.reduceLT, Nat.reduceEqDiff, Int.reduceNeg, Int.reduceLT, Int.reduceLE, Int.reduceEq, Int.reduceNe, Int.reduceAdd, Int.reduceSub, Int.reduceMul, Int.reduceToNat, Int.reduceBEq, Int.reduceBNe, df51]
    exact hS
  · exact hS.elim
def mapV (a v f : Int) : Bool := inV a 63 && (inV v 65535 && (v.tmod f == 0 && (decide (0 < a) || v == 0)))
def mappedG : List V → List Blk → Res
  | [.s (.i .i64 a), .s (.i .i64 v), .s (.i .i64 f)], h => .ob (f = 1 ∨ f = 16) (.ok (.s (.b (mapV a v f))) [] h)
  | _, _ => .bad
def TI : Tab := addT 51 inG noT
theorem TI_snd : TI.Snd Try.prog := addT_snd ok51 in_snd (noT_snd _)
theorem mapped_snd : Snd Try.prog 52 (FSpec.of mappedG) := snd_run TI_snd mixed Try.func52 dc52 100 fun args h K _ hS => by
  unfold mappedG at hS
  split at hS
  · obtain ⟨hf, hS⟩ := hS
    simp only [spec_ok, mapV] at hS
    rcases hf with rfl | rfl
    all_goals simp (config := { maxSteps := 10000000 }) only [EV1, EV2, EV3, EV4, EV5, EV6, addT, istep, pickR, putD, bin1R, un1R, slcR, bnd, capsOf, fillP, V.plain, V.cells, V.known, C.v, blk, setL, setH, eqS, eq1, cmpS, cmp1, isNil, popTo, killT, setT, leT, V.below, S.below, R.below, V.val, C.val, S.val, R.val, R.takes, vals, shows, unnamed, V.kill, V.names, C.names, S.names, R.names, List.set, List.replicate, ↓q_cond_t, ↓q_cond_f, if_true, if_false, reduceCtorEq, rvals, rvC, result, C.known, V.noL, C.noL, S.noL, R.noL, Option.map, true_and, and_true, ge_iff_le, gt_iff_lt, implies_true, q_ite_t, q_ite_f, beq_iff_eq, bne_iff_ne, q_ne, Nat.reduceAdd, Nat.reducePow, Int.reducePow, Nat.reduceMul, Nat.reduceSub, Nat.reduceLeDiff, Nat.reduceLT, Nat.reduceEqDiff, Int.reduceNeg, Int.reduceLT, Int.reduceLE, Int.reduceEq, Int.reduceNe, Int.reduceAdd, Int.reduceSub, Int.reduceMul, Int.reduceToNat, Int.reduceBEq, Int.reduceBNe, df52, TI, inG]
    all_goals exact hS
  · exact hS.elim
end Go.Proofs.Ythegocjfnjfkdaa

/- Package caps: Right. -/
namespace Go.Proofs.Ythegocjfnjfkdaa
open Go.D
set_option linter.all false
set_option maxRecDepth 100000
set_option maxHeartbeats 4000000

def TR : Tab := addT 51 inG (addT 52 mappedG (addT 50 bareG (addT 49 sizesG noT)))
theorem TR_snd : TR.Snd Try.prog := addT_snd ok51 in_snd (addT_snd ok52 mapped_snd (addT_snd ok50 bare_snd (addT_snd ok49 sizes_snd (noT_snd _))))

/-- Right, as the code asks it. -/
def rightB (c : Cap) : Bool :=
  if c.ty = 0 then (if c.obj = 0 ∧ c.bits = 0 ∧ c.mark = 0 ∧ c.guard = 0 ∧ c.gbits = 0 ∧ c.badge = 0 ∧ c.rights = 0 ∧ c.asid = 0 ∧ c.vaddr = 0 ∧ c.line = 0 then true else false)
  else if c.ty = 1 then (if ¬ (4 ≤ c.bits ∧ c.bits ≤ 15) ∨ ¬ (c.guard = 0 ∧ c.gbits = 0 ∧ c.badge = 0 ∧ c.rights = 0 ∧ c.asid = 0 ∧ c.vaddr = 0 ∧ c.line = 0) then false else if 0 < (uRaw c.bits) ∧ (c.obj < 1024 ∨ 65535 < c.obj ∨ ¬ c.obj.tmod (uRaw c.bits) = 0) then false else inV c.mark (uRaw c.bits))
  else if c.ty = 2 then (if ¬ (nOk c.bits = true) ∨ ¬ (c.mark = 0 ∧ c.badge = 0 ∧ c.rights = 0 ∧ c.asid = 0 ∧ c.vaddr = 0 ∧ c.line = 0) then false else if 0 < (nRaw c.bits) ∧ (c.obj < 1024 ∨ 65535 < c.obj ∨ ¬ c.obj.tmod (nRaw c.bits) = 0) then false else (inV c.gbits 31 && inV c.guard (IntKind.i64.wrap (IntKind.i64.wrap (1 * 2 ^ min c.gbits.toNat IntKind.i64.bits) - 1))))
  else if c.ty = 3 then (if c.bits = 0 ∧ c.mark = 0 ∧ c.guard = 0 ∧ c.gbits = 0 ∧ c.badge = 0 ∧ c.rights = 0 ∧ c.asid = 0 ∧ c.vaddr = 0 ∧ c.line = 0 then (if c.obj < 1024 ∨ 65535 < c.obj ∨ ¬ c.obj.tmod 64 = 0 then false else true) else false)
  else if c.ty = 4 then (if c.bits = 0 ∧ c.mark = 0 ∧ c.guard = 0 ∧ c.gbits = 0 ∧ c.asid = 0 ∧ c.vaddr = 0 ∧ c.line = 0 then (if c.obj < 1024 ∨ 65535 < c.obj ∨ ¬ c.obj.tmod 4 = 0 then false else (inV c.rights 7 && inV c.badge 268435455)) else false)
  else if c.ty = 5 then (if c.bits = 0 ∧ c.mark = 0 ∧ c.guard = 0 ∧ c.gbits = 0 ∧ c.asid = 0 ∧ c.vaddr = 0 ∧ c.line = 0 then (if c.obj < 1024 ∨ 65535 < c.obj ∨ ¬ c.obj.tmod 8 = 0 then false else (inV c.rights 7 && inV c.badge 268435455)) else false)
  else if c.ty = 6 then (if c.bits = 0 ∧ c.mark = 0 ∧ c.guard = 0 ∧ c.gbits = 0 ∧ c.badge = 0 ∧ c.rights = 0 ∧ c.line = 0 then (if c.obj < 1024 ∨ 65535 < c.obj ∨ ¬ c.obj.tmod 8 = 0 then false else mapV c.asid c.vaddr 1) else false)
  else if c.ty = 7 then (if c.bits = 0 ∧ c.mark = 0 ∧ c.guard = 0 ∧ c.gbits = 0 ∧ c.badge = 0 ∧ c.rights = 0 ∧ c.vaddr = 0 ∧ c.line = 0 then (if c.obj < 1024 ∨ 65535 < c.obj ∨ ¬ c.obj.tmod 8 = 0 then false else (inV c.asid 63 && c.asid.tmod 8 == 0)) else false)
  else if c.ty = 8 then (if c.bits = 0 ∧ c.mark = 0 ∧ c.guard = 0 ∧ c.gbits = 0 ∧ c.badge = 0 ∧ c.line = 0 then (if c.obj < 1024 ∨ 65535 < c.obj ∨ ¬ c.obj.tmod 16 = 0 then false else (inV c.rights 7 && mapV c.asid c.vaddr 16)) else false)
  else if c.ty = 9 then (if c.bits = 0 ∧ c.mark = 0 ∧ c.guard = 0 ∧ c.gbits = 0 ∧ c.badge = 0 ∧ c.rights = 0 ∧ c.asid = 0 ∧ c.vaddr = 0 ∧ c.line = 0 then (if c.obj < 1024 ∨ 65535 < c.obj ∨ ¬ c.obj.tmod 64 = 0 then false else true) else false)
  else if c.ty = 10 then (if ¬ ((if c.bits = 31 then true else nOk c.bits) = true) ∨ ¬ (c.guard = 0 ∧ c.gbits = 0 ∧ c.badge = 0 ∧ c.rights = 0 ∧ c.asid = 0 ∧ c.vaddr = 0 ∧ c.line = 0) then false else if 0 < (if c.bits = 31 then 64 else nRaw c.bits) ∧ (c.obj < 1024 ∨ 65535 < c.obj ∨ ¬ c.obj.tmod (if c.bits = 31 then 64 else nRaw c.bits) = 0) then false else if c.bits = 31 then inV c.mark 3 else inV c.mark (IntKind.i64.wrap ((if c.bits = 31 then (64 : Int) else nRaw c.bits).tdiv 4)))
  else if c.ty = 11 then (if c.obj = 0 ∧ c.bits = 0 ∧ c.mark = 0 ∧ c.guard = 0 ∧ c.gbits = 0 ∧ c.badge = 0 ∧ c.rights = 0 ∧ c.asid = 0 ∧ c.vaddr = 0 ∧ c.line = 0 then true else false)
  else if c.ty = 12 then (if c.obj = 0 ∧ c.bits = 0 ∧ c.mark = 0 ∧ c.guard = 0 ∧ c.gbits = 0 ∧ c.badge = 0 ∧ c.rights = 0 ∧ c.asid = 0 ∧ c.vaddr = 0 then inV c.line 15 else false)
  else if c.ty = 13 then (if c.obj = 0 ∧ c.bits = 0 ∧ c.mark = 0 ∧ c.guard = 0 ∧ c.gbits = 0 ∧ c.badge = 0 ∧ c.rights = 0 ∧ c.asid = 0 ∧ c.vaddr = 0 ∧ c.line = 0 then true else false)
  else false

theorem close2 {α : Type} {P : α → Prop} {A : Prop} [Decidable A] {x y : α} (h : P (if A then x else y)) : (¬A → P y) ∧ (A → P x) := by
  split at h
  · exact ⟨fun n => absurd ‹A› n, fun _ => h⟩
  · exact ⟨fun _ => h, fun n => absurd n ‹¬A›⟩
theorem close1 {α : Type} {P : α → Prop} {A : Prop} [Decidable A] {x y : α} (h : P (if A then x else y)) : (A → P x) ∧ (¬A → P y) := (close2 h).symm

theorem uRaw_eq {b : Int} (h : 4 ≤ b ∧ b ≤ 15) : uRaw b = 2 ^ b.toNat := by
  have : b = 4 ∨ b = 5 ∨ b = 6 ∨ b = 7 ∨ b = 8 ∨ b = 9 ∨ b = 10 ∨ b = 11 ∨ b = 12 ∨ b = 13 ∨ b = 14 ∨ b = 15 := by omega
  rcases this with rfl | rfl | rfl | rfl | rfl | rfl | rfl | rfl | rfl | rfl | rfl | rfl <;> decide
theorem nOk_iff {b : Int} : nOk b = true ↔ 1 ≤ b ∧ b ≤ 8 := by
  simp only [nOk, Bool.and_eq_true, decide_eq_true_eq]
  split <;> omega
theorem nRaw_eq {b : Int} (h : 1 ≤ b ∧ b ≤ 8) : nRaw b = 4 * 2 ^ b.toNat := by
  have : b = 1 ∨ b = 2 ∨ b = 3 ∨ b = 4 ∨ b = 5 ∨ b = 6 ∨ b = 7 ∨ b = 8 := by omega
  rcases this with rfl | rfl | rfl | rfl | rfl | rfl | rfl | rfl <;> decide
theorem inV_iff {n m : Int} : inV n m = true ↔ 0 ≤ n ∧ n ≤ m := by simp [inV]

def rightG (args : List V) (h : List Blk) : Res := capF (fun c => .ok (.s (.b (rightB c))) [] h) args
theorem right_snd : Snd Try.prog 15 (FSpec.of rightG) := snd_run TR_snd mixed Try.func15 dc15 200 fun args h K _ hS => by
  obtain ⟨⟨t, o, b, d, e, g, i, j, k, l, m⟩, rfl, hR⟩ := capF_spec hS
  simp only [Cap.cl, spec_ok, rightB] at hR ⊢
  have P : ∀ B : Bool, K (V.s (S.b B)) h = (fun B => K (V.s (S.b B)) h) B := fun _ => rfl
  rcases kinds t with rfl | rfl | rfl | rfl | rfl | rfl | rfl | rfl | rfl | rfl | rfl | rfl | rfl | rfl | ⟨k0, k1, k2, k3, k4, k5, k6, k7, k8, k9, k10, k11, k12, k13, ho⟩
  all_goals try simp only [k0, k1, k2, k3, k4, k5, k6, k7, k8, k9, k10, k11, k12, k13, if_false] at hR
  all_goals try simp only [Int.reduceEq, if_true, if_false] at hR
  all_goals try simp (config := { maxSteps := 10000000 }) only [EV1, EV2, EV3, EV4, EV5, EV6, addT, istep, pickR, putD, bin1R, un1R, slcR, bnd, capsOf, fillP, V.plain, V.cells, V.known, C.v, blk, setL, setH, eqS, eq1, cmpS, cmp1, isNil, popTo, killT, setT, leT, V.below, S.below, R.below, V.val, C.val, S.val, R.val, R.takes, vals, shows, unnamed, V.kill, V.names, C.names, S.names, R.names, List.set, List.replicate, ↓q_cond_t, ↓q_cond_f, if_true, if_false, reduceCtorEq, rvals, rvC, result, C.known, V.noL, C.noL, S.noL, R.noL, Option.map, true_and, and_true, ge_iff_le, gt_iff_lt, implies_true, q_ite_t, q_ite_f, beq_iff_eq, bne_iff_ne, q_ne, Nat.reduceAdd, Nat.reducePow, Int.reducePow, Nat.reduceMul, Nat.reduceSub, Nat.reduceLeDiff, Nat.reduceLT, Nat.reduceEqDiff, Int.reduceNeg, Int.reduceLT, Int.reduceLE, Int.reduceEq, Int.reduceNe, Int.reduceAdd, Int.reduceSub, Int.reduceMul, Int.reduceToNat, Int.reduceBEq, Int.reduceBNe, df15, TR, inG, mappedG, bareG, sizesG, capF, szN, szB, bareC, Cap.cl, k1, k2, k3, k4, k5, k6, k7, k8, k9, k10, k12]
  all_goals try simp (config := { maxSteps := 10000000 }) only [EV1, EV2, EV3, EV4, EV5, EV6, addT, istep, pickR, putD, bin1R, un1R, slcR, bnd, capsOf, fillP, V.plain, V.cells, V.known, C.v, blk, setL, setH, eqS, eq1, cmpS, cmp1, isNil, popTo, killT, setT, leT, V.below, S.below, R.below, V.val, C.val, S.val, R.val, R.takes, vals, shows, unnamed, V.kill, V.names, C.names, S.names, R.names, List.set, List.replicate, ↓q_cond_t, ↓q_cond_f, if_true, if_false, reduceCtorEq, rvals, rvC, result, C.known, V.noL, C.noL, S.noL, R.noL, Option.map, true_and, and_true, ge_iff_le, gt_iff_lt, implies_true, q_ite_t, q_ite_f, beq_iff_eq, bne_iff_ne, q_ne, Nat.reduceAdd, Nat.reducePow, Int.reducePow, Nat.reduceMul, Nat.reduceSub, Nat.reduceLeDiff, Nat.reduceLT, Nat.reduceEqDiff, Int.reduceNeg, Int.reduceLT, Int.reduceLE, Int.reduceEq, Int.reduceNe, Int.reduceAdd, Int.reduceSub, Int.reduceMul, Int.reduceToNat, Int.reduceBEq, Int.reduceBNe, df15, TR, inG, mappedG, bareG, sizesG, capF, szN, szB, bareC, Cap.cl]
  all_goals try exact close2 (P := fun B => K (V.s (S.b B)) h) hR
  all_goals try exact ⟨(close2 (P := fun B => K (V.s (S.b B)) h) hR).1, fun a => close1 (P := fun B => K (V.s (S.b B)) h) ((close2 (P := fun B => K (V.s (S.b B)) h) hR).2 a)⟩
  · refine ⟨fun hn h0 _ _ => by omega, (close1 (P := fun B => K (V.s (S.b B)) h) hR).1, fun a => close1 (P := fun B => K (V.s (S.b B)) h) ((close1 (P := fun B => K (V.s (S.b B)) h) hR).2 a)⟩
  · refine ⟨fun hn h0 _ _ => by omega, fun _ _ h => (inV_iff.1 h).1, (close1 (P := fun B => K (V.s (S.b B)) h) hR).1, fun a => close1 (P := fun B => K (V.s (S.b B)) h) ((close1 (P := fun B => K (V.s (S.b B)) h) hR).2 a)⟩
  · refine ⟨fun hn h0 _ _ => by omega, (close1 (P := fun B => K (V.s (S.b B)) h) hR).1, fun a => ?_⟩
    have h2 := close1 (P := fun B => K (V.s (S.b B)) h) ((close1 (P := fun B => K (V.s (S.b B)) h) hR).2 a)
    exact ⟨h2.1, fun a => close1 (P := fun B => K (V.s (S.b B)) h) (h2.2 a)⟩
  · exact ⟨fun _ => hR, fun hn => absurd (ho.elim .inl fun x => .inr (.inl x)) hn⟩
end Go.Proofs.Ythegocjfnjfkdaa

/- Caps: what Right tells of the fields. -/
namespace Go.Proofs.Ythegocjfnjfkdaa
open Go.D
set_option linter.all false
set_option maxRecDepth 100000
set_option maxHeartbeats 4000000

theorem ite_t {A : Prop} [Decidable A] {x : Bool} : (if A then x else false) = true ↔ A ∧ x = true := by split <;> simp [*]
theorem ite_f {A : Prop} [Decidable A] {x : Bool} : (if A then false else x) = true ↔ ¬ A ∧ x = true := by split <;> simp [*]
theorem uRaw_le {b : Int} (h : 4 ≤ b ∧ b ≤ 15) : 16 ≤ uRaw b ∧ uRaw b ≤ 32768 := by
  have : b = 4 ∨ b = 5 ∨ b = 6 ∨ b = 7 ∨ b = 8 ∨ b = 9 ∨ b = 10 ∨ b = 11 ∨ b = 12 ∨ b = 13 ∨ b = 14 ∨ b = 15 := by omega
  rcases this with rfl | rfl | rfl | rfl | rfl | rfl | rfl | rfl | rfl | rfl | rfl | rfl <;> decide
theorem nRaw_le {b : Int} (h : 1 ≤ b ∧ b ≤ 8) : 8 ≤ nRaw b ∧ nRaw b ≤ 1024 ∧ 0 ≤ IntKind.i64.wrap ((nRaw b).tdiv 4) ∧ IntKind.i64.wrap ((nRaw b).tdiv 4) ≤ 256 := by
  have : b = 1 ∨ b = 2 ∨ b = 3 ∨ b = 4 ∨ b = 5 ∨ b = 6 ∨ b = 7 ∨ b = 8 := by omega
  rcases this with rfl | rfl | rfl | rfl | rfl | rfl | rfl | rfl <;> decide
def gRaw (g : Int) : Int := IntKind.i64.wrap (IntKind.i64.wrap (1 * 2 ^ min g.toNat IntKind.i64.bits) - 1)
theorem gRaw_le {g : Int} (h : 0 ≤ g ∧ g ≤ 31) : gRaw g = 2 ^ g.toNat - 1 ∧ gRaw g ≤ 2147483647 := by
  obtain ⟨n, rfl⟩ : ∃ n : Nat, g = n := ⟨g.toNat, by omega⟩
  have hn : n < 32 := by omega
  have : ∀ n : Fin 32, gRaw ((n.val : Nat) : Int) = 2 ^ ((n.val : Nat) : Int).toNat - 1 ∧ gRaw ((n.val : Nat) : Int) ≤ 2147483647 := by decide
  exact this ⟨n, hn⟩

/-- The number that stands in the second word. -/
def Cap.num (c : Cap) : Int := c.mark + c.guard + c.badge + c.vaddr
structure Cap.RB (c : Cap) : Prop where
  ty : 0 ≤ c.ty ∧ c.ty ≤ 13
  obj : 0 ≤ c.obj ∧ c.obj ≤ 65535
  bits : 0 ≤ c.bits ∧ c.bits ≤ 31
  rights : 0 ≤ c.rights ∧ c.rights ≤ 7
  line : 0 ≤ c.line ∧ c.line ≤ 15
  asid : 0 ≤ c.asid ∧ c.asid ≤ 63
  gbits : 0 ≤ c.gbits ∧ c.gbits ≤ 31
  mark : 0 ≤ c.mark ∧ c.mark ≤ 32768
  guard : 0 ≤ c.guard ∧ c.guard ≤ 2147483647
  badge : 0 ≤ c.badge ∧ c.badge ≤ 268435455
  vaddr : 0 ≤ c.vaddr ∧ c.vaddr ≤ 65535
  one : if c.ty = 2 then c.mark = 0 ∧ c.badge = 0 ∧ c.vaddr = 0 else if c.ty = 4 ∨ c.ty = 5 then c.mark = 0 ∧ c.guard = 0 ∧ c.vaddr = 0 else if c.ty = 6 ∨ c.ty = 8 then c.mark = 0 ∧ c.guard = 0 ∧ c.badge = 0 else c.guard = 0 ∧ c.badge = 0 ∧ c.vaddr = 0

theorem right_bounds {c : Cap} (h : rightB c = true) : c.RB := by
  obtain ⟨t, o, b, d, e, g, i, j, k, l, m⟩ := c
  simp only [rightB] at h
  rcases kinds t with rfl | rfl | rfl | rfl | rfl | rfl | rfl | rfl | rfl | rfl | rfl | rfl | rfl | rfl | ⟨k0, k1, k2, k3, k4, k5, k6, k7, k8, k9, k10, k11, k12, k13, ho⟩
  all_goals try simp only [k0, k1, k2, k3, k4, k5, k6, k7, k8, k9, k10, k11, k12, k13, if_false] at h
  all_goals try simp only [Int.reduceEq, if_true, if_false, ite_t, ite_f, Bool.and_eq_true, inV_iff, mapV, Bool.or_eq_true, decide_eq_true_eq, beq_iff_eq, not_or, Classical.not_not, nOk_iff, and_true] at h
  case inr.inr.inr.inr.inr.inr.inr.inr.inr.inr.inr.inr.inr.inr => exact absurd h (by decide)
  case inr.inl =>
    have := uRaw_le h.1.1
    exact ⟨by simp, by simp only; omega, by simp only; omega, by simp only; omega, by simp only; omega, by simp only; omega, by simp only; omega, by simp only; omega, by simp only; omega, by simp only; omega, by simp only; omega, by simp only [Int.reduceEq, if_false, or_self]; omega⟩
  case inr.inr.inl =>
    have := nRaw_le h.1.1
    have := gRaw_le h.2.2.1
    simp only [gRaw] at this
    exact ⟨by simp, by simp only; omega, by simp only; omega, by simp only; omega, by simp only; omega, by simp only; omega, by simp only; omega, by simp only; omega, by simp only; omega, by simp only; omega, by simp only; omega, by simp only [if_true]; omega⟩
  case inr.inr.inr.inr.inr.inr.inr.inr.inr.inr.inl =>
    by_cases hb : b = 31
    · simp only [hb, if_true, inV_iff, true_and] at h ⊢
      exact ⟨by simp, by simp only; omega, by simp only; omega, by simp only; omega, by simp only; omega, by simp only; omega, by simp only; omega, by simp only; omega, by simp only; omega, by simp only; omega, by simp only; omega, by simp only [Int.reduceEq, if_false, or_self]; omega⟩
    · simp only [hb, if_false, inV_iff, nOk_iff] at h ⊢
      have := nRaw_le h.1.1
      exact ⟨by simp, by simp only; omega, by simp only; omega, by simp only; omega, by simp only; omega, by simp only; omega, by simp only; omega, by simp only; omega, by simp only; omega, by simp only; omega, by simp only; omega, by simp only [Int.reduceEq, if_false, or_self]; omega⟩
  all_goals exact ⟨by simp, by simp only; omega, by simp only; omega, by simp only; omega, by simp only; omega, by simp only; omega, by simp only; omega, by simp only; omega, by simp only; omega, by simp only; omega, by simp only; omega, by simp only [Int.reduceEq, if_false, if_true, or_self, or_true, or_false, true_or, false_or]; omega⟩
end Go.Proofs.Ythegocjfnjfkdaa

/- Package word: Pack, Unpack. -/
namespace Go.Proofs.Ythegocjfnjfkdaa
open Go.D
set_option linter.all false
set_option maxRecDepth 100000
set_option maxHeartbeats 4000000

structure Fd where
  b : Int
  v : Int
def Fd.c (f : Fd) : List S := [.i .i64 f.b, .i .u64 f.v]
theorem Fd.c_len (f : Fd) : f.c.length = 2 := rfl
def Fd.z : Fd := ⟨0, 0⟩
def decF : List S → List Fd
  | .i _ b :: .i _ v :: s => ⟨b, v⟩ :: decF s
  | _ => []
theorem decF_arr : ∀ L : List Fd, decF (arr Fd.c L) = L
  | [] => rfl
  | l :: L => by simp only [arr, Fd.c, List.cons_append, List.nil_append, decF, decF_arr L]

/-- Fields, laid one behind the other. -/
def packB : List Fd → Int → Bool
  | [], _ => true
  | f :: L, at_ => setB at_ f.b f.v && packB L (at_ + f.b)
def packV : List Fd → Int → Int
  | [], _ => 0
  | f :: L, at_ => ((2 ^ at_.toNat * f.v.toNat : Nat) : Int) + packV L (at_ + f.b)

theorem setV_low {w k m v : Nat} (hw : w < 2 ^ k) : setV (w : Int) (k : Int) (m : Int) (v : Int) = ((w + 2 ^ k * v : Nat) : Int) := by
  have h1 : w < 2 ^ (k + m) := Nat.lt_of_lt_of_le hw (Nat.pow_le_pow_right (by decide) (by omega))
  simp only [setV, Int.toNat_natCast, Nat.div_eq_of_lt h1, Nat.mod_eq_of_lt hw, Nat.mul_zero, Nat.zero_add]
  rw [Nat.add_comm]

theorem low_step {w k m v : Nat} (hw : w < 2 ^ k) (hv : v < 2 ^ m) : w + 2 ^ k * v < 2 ^ (k + m) := by
  have : 2 ^ k * (v + 1) ≤ 2 ^ k * 2 ^ m := Nat.mul_le_mul_left _ hv
  rw [← Nat.pow_add, Nat.mul_add] at this
  omega

def packG : List V → List Blk → Res
  | [.s .ns], h => .ok (.tup [.s (.i .u64 0), .s (.i .i64 0)]) [] h
  | [.s (.sl (.g k) 0 n _)], h => match h[k]? with
    | some B => .ob (B.st ≠ .dead ∧ B.cells = arr Fd.c (decF B.cells) ∧ n ≤ (decF B.cells).length ∧ n ≤ 9223372036854775807 ∧ ∀ f, f ∈ decF B.cells → u64 f.v)
      (.br (packB ((decF B.cells).take n) 0) (.ok (.tup [.s (.i .u64 (packV ((decF B.cells).take n) 0)), .s (.i .i64 0)]) [] h) (.ok (.tup [.s (.i .u64 0), .s (.i .i64 10)]) [] h))
    | none => .bad
  | _, _ => .bad

def W2 : Tab := addT 84 setG (addT 85 getG noT)
theorem W2_snd : W2.Snd Try.prog := addT_snd ok84 set_snd (addT_snd ok85 get_snd (noT_snd _))

theorem pack_snd : Snd Try.prog 58 (FSpec.of packG) := snd_run W2_snd mixed Try.func58 dc58 100 fun args h K _ hS => by
  unfold packG at hS
  split at hS
  · rw [spec_ok] at hS
    simp (config := { maxSteps := 10000000 }) only [EV1, EV2, EV3, EV4, EV5, EV6, addT, istep, pickR, putD, bin1R, un1R, slcR, bnd, capsOf, fillP, V.plain, V.cells, V.known, C.v, blk, setL, setH, eqS, eq1, cmpS, cmp1, isNil, popTo, killT, setT, leT, V.below, S.below, R.below, V.val, C.val, S.val, R.val, R.takes, vals, shows, unnamed, V.kill, V.names, C.names, S.names, R.names, List.set, List.replicate, ↓q_cond_t, ↓q_cond_f, if_true, if_false, reduceCtorEq, rvals, rvC, result, C.known, V.noL, C.noL, S.noL, R.noL, Option.map, true_and, and_true, ge_iff_le, gt_iff_lt, implies_true, q_ite_t, q_ite_f, beq_iff_eq, bne_iff_ne, q_ne, Nat.reduceAdd, Nat.reducePow, Int.reducePow, Nat.reduceMul, Nat.reduceSub, Nat.reduceLeDiff, Nat.reduceLT, Nat.reduceEqDiff, Int.reduceNeg, Int.reduceLT, Int.reduceLE, Int.reduceEq, Int.reduceNe, Int.reduceAdd, Int.reduceSub, Int.reduceMul, Int.reduceToNat, Int.reduceBEq, Int.reduceBNe, df58]
    refine loop_rule (α := Unit) [] (fun _ => []) (fun _ => []) (fun _ => h) (fun _ => True) (fun _ => 0) () trivial .refl ?_
    rintro X _ _ _
    refine run_sound (Tab.ok_Γ _) 100 _ _ _ _ ?_
    simp (config := { maxSteps := 10000000 }) only [EV1, EV2, EV3, EV4, EV5, EV6, addT, istep, pickR, putD, bin1R, un1R, slcR, bnd, capsOf, fillP, V.plain, V.cells, V.known, C.v, blk, setL, setH, eqS, eq1, cmpS, cmp1, isNil, popTo, killT, setT, leT, V.below, S.below, R.below, V.val, C.val, S.val, R.val, R.takes, vals, shows, unnamed, V.kill, V.names, C.names, S.names, R.names, List.set, List.replicate, ↓q_cond_t, ↓q_cond_f, if_true, if_false, reduceCtorEq, rvals, rvC, result, C.known, V.noL, C.noL, S.noL, R.noL, Option.map, true_and, and_true, ge_iff_le, gt_iff_lt, implies_true, q_ite_t, q_ite_f, beq_iff_eq, bne_iff_ne, q_ne, Nat.reduceAdd, Nat.reducePow, Int.reducePow, Nat.reduceMul, Nat.reduceSub, Nat.reduceLeDiff, Nat.reduceLT, Nat.reduceEqDiff, Int.reduceNeg, Int.reduceLT, Int.reduceLE, Int.reduceEq, Int.reduceNe, Int.reduceAdd, Int.reduceSub, Int.reduceMul, Int.reduceToNat, Int.reduceBEq, Int.reduceBNe, Int.lt_irrefl]
    exact hS
  · rename_i k n c
    split at hS
    · rename_i B hk
      obtain ⟨⟨hst, hB, hn, hn64, hu⟩, hS⟩ := hS
      simp only [spec_br, spec_ok] at hS
      generalize decF B.cells = L at *
      obtain ⟨F, hF⟩ : ∃ F, F = L.take n := ⟨_, rfl⟩
      have hFl : F.length = n := by rw [hF]; simp; omega
      rw [← hF] at hS
      simp (config := { maxSteps := 10000000 }) only [EV1, EV2, EV3, EV4, EV5, EV6, addT, istep, pickR, putD, bin1R, un1R, slcR, bnd, capsOf, fillP, V.plain, V.cells, V.known, C.v, blk, setL, setH, eqS, eq1, cmpS, cmp1, isNil, popTo, killT, setT, leT, V.below, S.below, R.below, V.val, C.val, S.val, R.val, R.takes, vals, shows, unnamed, V.kill, V.names, C.names, S.names, R.names, List.set, List.replicate, ↓q_cond_t, ↓q_cond_f, if_true, if_false, reduceCtorEq, rvals, rvC, result, C.known, V.noL, C.noL, S.noL, R.noL, Option.map, true_and, and_true, ge_iff_le, gt_iff_lt, implies_true, q_ite_t, q_ite_f, beq_iff_eq, bne_iff_ne, q_ne, Nat.reduceAdd, Nat.reducePow, Int.reducePow, Nat.reduceMul, Nat.reduceSub, Nat.reduceLeDiff, Nat.reduceLT, Nat.reduceEqDiff, Int.reduceNeg, Int.reduceLT, Int.reduceLE, Int.reduceEq, Int.reduceNe, Int.reduceAdd, Int.reduceSub, Int.reduceMul, Int.reduceToNat, Int.reduceBEq, Int.reduceBNe, df58]
      refine loop_rule (α := Nat × Nat × Nat) [2, 3, 4, 5, 7, 8, 11, 12, 13, 14, 15, 16, 17, 18, 19, 20, 21, 22, 23, 24, 25, 26, 27, 28, 29, 30, 31, 32] (fun y => [(4, .s (.i .u64 y.2.2)), (5, .s (.i .i64 y.2.1)), (11, .s (.i .i64 y.1))]) (fun _ => []) (fun _ => h)
        (fun y => y.1 ≤ n ∧ y.2.1 ≤ 64 ∧ y.2.2 < 2 ^ y.2.1 ∧ packB F 0 = packB (F.drop y.1) y.2.1 ∧ packV F 0 = y.2.2 + packV (F.drop y.1) y.2.1) (fun y => n - y.1) (0, 0, 0) ⟨by simp, by simp, by simp, by simp, by simp⟩ (Wk.same rfl rfl ?_) ?_
      · simp (config := { maxSteps := 10000000 }) only [EV1, EV2, EV3, EV4, EV5, EV6, addT, istep, pickR, putD, bin1R, un1R, slcR, bnd, capsOf, fillP, V.plain, V.cells, V.known, C.v, blk, setL, setH, eqS, eq1, cmpS, cmp1, isNil, popTo, killT, setT, leT, V.below, S.below, R.below, V.val, C.val, S.val, R.val, R.takes, vals, shows, unnamed, V.kill, V.names, C.names, S.names, R.names, List.set, List.replicate, ↓q_cond_t, ↓q_cond_f, if_true, if_false, reduceCtorEq, rvals, rvC, result, C.known, V.noL, C.noL, S.noL, R.noL, Option.map, true_and, and_true, ge_iff_le, gt_iff_lt, implies_true, q_ite_t, q_ite_f, beq_iff_eq, bne_iff_ne, q_ne, Nat.reduceAdd, Nat.reducePow, Int.reducePow, Nat.reduceMul, Nat.reduceSub, Nat.reduceLeDiff, Nat.reduceLT, Nat.reduceEqDiff, Int.reduceNeg, Int.reduceLT, Int.reduceLE, Int.reduceEq, Int.reduceNe, Int.reduceAdd, Int.reduceSub, Int.reduceMul, Int.reduceToNat, Int.reduceBEq, Int.reduceBNe, Int.natCast_zero]
      · rintro X ⟨i, a, w⟩ ⟨hi, ha, hw, hpb, hpv⟩ IH
        simp only at hi ha hw hpb hpv ⊢
        rcases Nat.lt_or_ge i n with hlt | hge
        · have I := idx hlt hn64
          have hiL : i < L.length := by omega
          have E : sub B.cells (i * 2) 2 = [.i .i64 (nth Fd.z L i).b, .i .u64 (nth Fd.z L i).v] := by
            rw [hB, arr_sub Fd.c_len hiL, nth_eq hiL]; rfl
          have hle : i * 2 + 2 ≤ B.cells.length := by rw [hB, arr_length Fd.c_len]; omega
          have hd : F.drop i = nth Fd.z L i :: F.drop (i + 1) := by
            rw [List.drop_eq_getElem_cons (by omega), nth_eq hiL]
            congr 1
            subst hF; simp
          obtain ⟨f, hf⟩ : ∃ f, f = nth Fd.z L i := ⟨_, rfl⟩
          rw [← hf] at E hd
          have hfu : u64 f.v := hu f (by rw [hf, nth_eq hiL]; exact List.getElem_mem _)
          obtain ⟨v, hv, hv'⟩ := hfu.nat
          have hw64 : u64 (w : Int) := u64_of (Nat.lt_of_lt_of_le hw (by have := pow_le64 (k := a) (n := 0) (by omega); simpa using this))
          rw [hd] at hpb hpv
          simp only [packB, packV] at hpb hpv
          cases hs : setB (a : Int) f.b f.v with
          | true =>
            have hs2 := hs
            simp only [setB, Bool.and_eq_true, decide_eq_true_eq] at hs2
            obtain ⟨k', m, e1, e2, h1, h2, h3⟩ := fieldB_nat hs2.1
            have : k' = a := by omega
            subst this
            have hvm : v < 2 ^ m := by have := hs2.2; rw [hv, e2] at this; simpa using this
            have hsv : setV (w : Int) (k' : Int) f.b f.v = ((w + 2 ^ k' * v : Nat) : Int) := by rw [e2, hv]; exact setV_low hw
            have hwr : IntKind.i64.wrap ((k' : Int) + f.b) = ((k' + m : Nat) : Int) := by rw [wrap64] <;> omega
            refine run_sound (Tab.ok_Γ _) 200 _ _ _ _ ?_
            simp (config := { maxSteps := 10000000 }) only [EV1, EV2, EV3, EV4, EV5, EV6, addT, istep, pickR, putD, bin1R, un1R, slcR, bnd, capsOf, fillP, V.plain, V.cells, V.known, C.v, blk, setL, setH, eqS, eq1, cmpS, cmp1, isNil, popTo, killT, setT, leT, V.below, S.below, R.below, V.val, C.val, S.val, R.val, R.takes, vals, shows, unnamed, V.kill, V.names, C.names, S.names, R.names, List.set, List.replicate, ↓q_cond_t, ↓q_cond_f, if_true, if_false, reduceCtorEq, rvals, rvC, result, C.known, V.noL, C.noL, S.noL, R.noL, Option.map, true_and, and_true, ge_iff_le, gt_iff_lt, implies_true, q_ite_t, q_ite_f, beq_iff_eq, bne_iff_ne, q_ne, Nat.reduceAdd, Nat.reducePow, Int.reducePow, Nat.reduceMul, Nat.reduceSub, Nat.reduceLeDiff, Nat.reduceLT, Nat.reduceEqDiff, Int.reduceNeg, Int.reduceLT, Int.reduceLE, Int.reduceEq, Int.reduceNe, Int.reduceAdd, Int.reduceSub, Int.reduceMul, Int.reduceToNat, Int.reduceBEq, Int.reduceBNe, I, E, hle, hk, hst, W2, setG, hw64, hfu, hs, hsv, hwr]
            refine IH (i + 1, k' + m, w + 2 ^ k' * v) _ (by simp only; omega) ⟨by simp only; omega, h3, low_step hw hvm, ?_, ?_⟩ (Wk.keep 0 rfl rfl ?_ ?_ rfl)
            · rw [hpb, hs, Bool.true_and, e2]; rfl
            · rw [hpv, hv, e2]
              simp only [Int.toNat_natCast]
              push_cast
              omega
            · simp (config := { maxSteps := 10000000 }) only [EV1, EV2, EV3, EV4, EV5, EV6, addT, istep, pickR, putD, bin1R, un1R, slcR, bnd, capsOf, fillP, V.plain, V.cells, V.known, C.v, blk, setL, setH, eqS, eq1, cmpS, cmp1, isNil, popTo, killT, setT, leT, V.below, S.below, R.below, V.val, C.val, S.val, R.val, R.takes, vals, shows, unnamed, V.kill, V.names, C.names, S.names, R.names, List.set, List.replicate, ↓q_cond_t, ↓q_cond_f, if_true, if_false, reduceCtorEq, rvals, rvC, result, C.known, V.noL, C.noL, S.noL, R.noL, Option.map, true_and, and_true, ge_iff_le, gt_iff_lt, implies_true, q_ite_t, q_ite_f, beq_iff_eq, bne_iff_ne, q_ne, Nat.reduceAdd, Nat.reducePow, Int.reducePow, Nat.reduceMul, Nat.reduceSub, Nat.reduceLeDiff, Nat.reduceLT, Nat.reduceEqDiff, Int.reduceNeg, Int.reduceLT, Int.reduceLE, Int.reduceEq, Int.reduceNe, Int.reduceAdd, Int.reduceSub, Int.reduceMul, Int.reduceToNat, Int.reduceBEq, Int.reduceBNe]
            · simp (config := { maxSteps := 10000000 }) only [EV1, EV2, EV3, EV4, EV5, EV6, addT, istep, pickR, putD, bin1R, un1R, slcR, bnd, capsOf, fillP, V.plain, V.cells, V.known, C.v, blk, setL, setH, eqS, eq1, cmpS, cmp1, isNil, popTo, killT, setT, leT, V.below, S.below, R.below, V.val, C.val, S.val, R.val, R.takes, vals, shows, unnamed, V.kill, V.names, C.names, S.names, R.names, List.set, List.replicate, ↓q_cond_t, ↓q_cond_f, if_true, if_false, reduceCtorEq, rvals, rvC, result, C.known, V.noL, C.noL, S.noL, R.noL, Option.map, true_and, and_true, ge_iff_le, gt_iff_lt, implies_true, q_ite_t, q_ite_f, beq_iff_eq, bne_iff_ne, q_ne, Nat.reduceAdd, Nat.reducePow, Int.reducePow, Nat.reduceMul, Nat.reduceSub, Nat.reduceLeDiff, Nat.reduceLT, Nat.reduceEqDiff, Int.reduceNeg, Int.reduceLT, Int.reduceLE, Int.reduceEq, Int.reduceNe, Int.reduceAdd, Int.reduceSub, Int.reduceMul, Int.reduceToNat, Int.reduceBEq, Int.reduceBNe]
          | false =>
            refine run_sound (Tab.ok_Γ _) 200 _ _ _ _ ?_
            simp (config := { maxSteps := 10000000 }) only [EV1, EV2, EV3, EV4, EV5, EV6, addT, istep, pickR, putD, bin1R, un1R, slcR, bnd, capsOf, fillP, V.plain, V.cells, V.known, C.v, blk, setL, setH, eqS, eq1, cmpS, cmp1, isNil, popTo, killT, setT, leT, V.below, S.below, R.below, V.val, C.val, S.val, R.val, R.takes, vals, shows, unnamed, V.kill, V.names, C.names, S.names, R.names, List.set, List.replicate, ↓q_cond_t, ↓q_cond_f, if_true, if_false, reduceCtorEq, rvals, rvC, result, C.known, V.noL, C.noL, S.noL, R.noL, Option.map, true_and, and_true, ge_iff_le, gt_iff_lt, implies_true, q_ite_t, q_ite_f, beq_iff_eq, bne_iff_ne, q_ne, Nat.reduceAdd, Nat.reducePow, Int.reducePow, Nat.reduceMul, Nat.reduceSub, Nat.reduceLeDiff, Nat.reduceLT, Nat.reduceEqDiff, Int.reduceNeg, Int.reduceLT, Int.reduceLE, Int.reduceEq, Int.reduceNe, Int.reduceAdd, Int.reduceSub, Int.reduceMul, Int.reduceToNat, Int.reduceBEq, Int.reduceBNe, I, E, hle, hk, hst, W2, setG, hw64, hfu, hs]
            rw [hs, Bool.false_and] at hpb
            exact hS.2 hpb
        · have : i = n := by omega
          subst this
          refine run_sound (Tab.ok_Γ _) 100 _ _ _ _ ?_
          simp (config := { maxSteps := 10000000 }) only [EV1, EV2, EV3, EV4, EV5, EV6, addT, istep, pickR, putD, bin1R, un1R, slcR, bnd, capsOf, fillP, V.plain, V.cells, V.known, C.v, blk, setL, setH, eqS, eq1, cmpS, cmp1, isNil, popTo, killT, setT, leT, V.below, S.below, R.below, V.val, C.val, S.val, R.val, R.takes, vals, shows, unnamed, V.kill, V.names, C.names, S.names, R.names, List.set, List.replicate, ↓q_cond_t, ↓q_cond_f, if_true, if_false, reduceCtorEq, rvals, rvC, result, C.known, V.noL, C.noL, S.noL, R.noL, Option.map, true_and, and_true, ge_iff_le, gt_iff_lt, implies_true, q_ite_t, q_ite_f, beq_iff_eq, bne_iff_ne, q_ne, Nat.reduceAdd, Nat.reducePow, Int.reducePow, Nat.reduceMul, Nat.reduceSub, Nat.reduceLeDiff, Nat.reduceLT, Nat.reduceEqDiff, Int.reduceNeg, Int.reduceLT, Int.reduceLE, Int.reduceEq, Int.reduceNe, Int.reduceAdd, Int.reduceSub, Int.reduceMul, Int.reduceToNat, Int.reduceBEq, Int.reduceBNe, Int.lt_irrefl]
          have hdn : F.drop i = [] := List.drop_eq_nil_of_le (by omega)
          rw [hdn] at hpb hpv
          have := hS.1 hpb
          rw [hpv] at this
          simpa [packV] using this
    · exact hS.elim
  · exact hS.elim

/-! ### Unpack -/
def decI : List S → List Int
  | .i _ b :: s => b :: decI s
  | _ => []
def Ic (b : Int) : List S := [.i .i64 b]
def Uc (b : Int) : List S := [.i .u64 b]
theorem Ic_len (b : Int) : (Ic b).length = 1 := rfl
theorem Uc_len (b : Int) : (Uc b).length = 1 := rfl
theorem decI_arr : ∀ L : List Int, decI (arr Ic L) = L
  | [] => rfl
  | l :: L => by simp only [arr, Ic, List.cons_append, List.nil_append, decI, decI_arr L]

/-- Are there fields of so many bits each, and nothing behind them? -/
def unpackB (w : Int) : List Int → Int → Bool
  | [], at_ => decide (w.toNat / 2 ^ at_.toNat = 0)
  | n :: L, at_ => fieldB at_ n && unpackB w L (at_ + n)
def unpackV (w : Int) : List Int → Int → List Int
  | [], _ => []
  | n :: L, at_ => getV w at_ n :: unpackV w L (at_ + n)

/-- A slice of words, fresh. -/
def wordsR (M : List Int) (f : V → V) (h : List Blk) : Res :=
  match M with
  | [] => .ok (f (.s .ns)) [] h
  | _ => .all M.length fun c => .ok (f (.s (.sl (.g h.length) 0 M.length c))) [] (h ++ [⟨.rw, arr Uc M, c⟩])

def pairV (e : Int) : V → V
  | .s x => .tup [.s x, .s (.i .i64 e)]
  | v => v

def unpackG : List V → List Blk → Res
  | [.s (.i .u64 w), .s .ns], h => .ob (u64 w) (.br (decide (w = 0)) (.ok (.tup [.s .ns, .s (.i .i64 0)]) [] h) (.ok (.tup [.s .ns, .s (.i .i64 10)]) [] h))
  | [.s (.i .u64 w), .s (.sl (.g k) 0 n _)], h => match h[k]? with
    | some B => .ob (u64 w ∧ B.st ≠ .dead ∧ B.cells = arr Ic (decI B.cells) ∧ n ≤ (decI B.cells).length ∧ n ≤ 9223372036854775807)
      (.br (unpackB w ((decI B.cells).take n) 0) (wordsR (unpackV w ((decI B.cells).take n) 0) (pairV 0) h) (.ok (.tup [.s .ns, .s (.i .i64 10)]) [] h))
    | none => .bad
  | _, _ => .bad

end Go.Proofs.Ythegocjfnjfkdaa

/- Package caps: number, Encode. -/
namespace Go.Proofs.Ythegocjfnjfkdaa
open Go.D
set_option linter.all false
set_option maxRecDepth 100000
set_option maxHeartbeats 4000000

theorem wrapu {n : Int} (h0 : 0 ≤ n) (h1 : n < 18446744073709551616) : IntKind.u64.wrap n = n := by
  show n % 18446744073709551616 = n
  omega

def numG (args : List V) (h : List Blk) : Res := capF (fun c => .ok (.s (.i .i64 (IntKind.i64.wrap (IntKind.i64.wrap (IntKind.i64.wrap (c.mark + c.guard) + c.badge) + c.vaddr)))) [] h) args
theorem num_snd : Snd Try.prog 59 (FSpec.of numG) := snd_run (noT_snd _) mixed Try.func59 dc59 100 fun args h K _ hS => by
  obtain ⟨⟨t, o, b, d, e, g, i, j, k, l, m⟩, rfl, hR⟩ := capF_spec hS
  simp only [Cap.cl, spec_ok] at hR ⊢
  simp (config := { maxSteps := 10000000 }) only [EV1, EV2, EV3, EV4, EV5, EV6, addT, istep, pickR, putD, bin1R, un1R, slcR, bnd, capsOf, fillP, V.plain, V.cells, V.known, C.v, blk, setL, setH, eqS, eq1, cmpS, cmp1, isNil, popTo, killT, setT, leT, V.below, S.below, R.below, V.val, C.val, S.val, R.val, R.takes, vals, shows, unnamed, V.kill, V.names, C.names, S.names, R.names, List.set, List.replicate, ↓q_cond_t, ↓q_cond_f, if_true, if_false, reduceCtorEq, rvals, rvC, result, C.known, V.noL, C.noL, S.noL, R.noL, Option.map, true_and, and_true, ge_iff_le, gt_iff_lt, implies_true, q_ite_t, q_ite_f, beq_iff_eq, bne_iff_ne, q_ne, Nat.reduceAdd, Nat.reducePow, Int.reducePow, Nat.reduceMul, Nat.reduceSub, Nat.reduceLeDiff, Nat.reduceLT, Nat.reduceEqDiff, Int.reduceNeg, Int.reduceLT, Int.reduceLE, Int.reduceEq, Int.reduceNe, Int.reduceAdd, Int.reduceSub, Int.reduceMul, Int.reduceToNat, Int.reduceBEq, Int.reduceBNe, df59]
  exact hR

def fldG : List V → List Blk → Res
  | [.s (.i .i64 b), .s (.i .i64 n)], h => .ok (.agg [.i .i64 b, .i .u64 (IntKind.u64.wrap n)]) [] h
  | _, _ => .bad
theorem fld_snd : Snd Try.prog 57 (FSpec.of fldG) := snd_run (noT_snd _) mixed Try.func57 dc57 100 fun args h K _ hS => by
  unfold fldG at hS
  split at hS
  · simp only [spec_ok] at hS
    simp (config := { maxSteps := 10000000 }) only [EV1, EV2, EV3, EV4, EV5, EV6, addT, istep, pickR, putD, bin1R, un1R, slcR, bnd, capsOf, fillP, V.plain, V.cells, V.known, C.v, blk, setL, setH, eqS, eq1, cmpS, cmp1, isNil, popTo, killT, setT, leT, V.below, S.below, R.below, V.val, C.val, S.val, R.val, R.takes, vals, shows, unnamed, V.kill, V.names, C.names, S.names, R.names, List.set, List.replicate, ↓q_cond_t, ↓q_cond_f, if_true, if_false, reduceCtorEq, rvals, rvC, result, C.known, V.noL, C.noL, S.noL, R.noL, Option.map, true_and, and_true, ge_iff_le, gt_iff_lt, implies_true, q_ite_t, q_ite_f, beq_iff_eq, bne_iff_ne, q_ne, Nat.reduceAdd, Nat.reducePow, Int.reducePow, Nat.reduceMul, Nat.reduceSub, Nat.reduceLeDiff, Nat.reduceLT, Nat.reduceEqDiff, Int.reduceNeg, Int.reduceLT, Int.reduceLE, Int.reduceEq, Int.reduceNe, Int.reduceAdd, Int.reduceSub, Int.reduceMul, Int.reduceToNat, Int.reduceBEq, Int.reduceBNe, df57, put, fillP]
    exact hS
  · exact hS.elim

def Cap.w0 (c : Cap) : Int := c.ty + 16 * c.obj + 1048576 * c.bits + 33554432 * c.rights + 268435456 * c.line + 4294967296 * c.asid + 274877906944 * c.gbits
def Cap.fs (c : Cap) : List Fd := [⟨4, c.ty⟩, ⟨16, c.obj⟩, ⟨5, c.bits⟩, ⟨3, c.rights⟩, ⟨4, c.line⟩, ⟨6, c.asid⟩, ⟨5, c.gbits⟩]
theorem fs_B {c : Cap} (h : c.RB) : packB c.fs 0 = true := by
  obtain ⟨h1, h2, h3, h4, h5, h6, h7, _, _, _, _, _⟩ := h
  simp only [Cap.fs, packB, setB, fieldB, Bool.and_eq_true, decide_eq_true_eq]
  simp only [Int.reduceAdd, Int.reduceSub, Int.reduceLE, Int.reduceToNat, Nat.reducePow, true_and, and_true]
  omega
theorem fs_V {c : Cap} (h : c.RB) : packV c.fs 0 = c.w0 := by
  obtain ⟨h1, h2, h3, h4, h5, h6, h7, _, _, _, _, _⟩ := h
  simp only [Cap.fs, packV, Int.reduceAdd, Int.reduceToNat, Nat.reducePow, Cap.w0]
  omega

def encG (args : List V) (h : List Blk) : Res := capF (fun c => .br (rightB c) (.ok (.tup [.s (.i .u64 c.w0), .s (.i .u64 c.num), .s (.i .i64 0)]) [] h) (.ok (.tup [.s (.i .u64 0), .s (.i .u64 0), .s (.i .i64 60)]) [] h)) args
def TE : Tab := addT 15 rightG (addT 57 fldG (addT 58 packG (addT 59 numG noT)))
theorem TE_snd : TE.Snd Try.prog := addT_snd ok15 right_snd (addT_snd ok57 fld_snd (addT_snd ok58 pack_snd (addT_snd ok59 num_snd (noT_snd _))))
theorem enc_snd : Snd Try.prog 17 (FSpec.of encG) := snd_run TE_snd mixed Try.func17 dc17 200 fun args h K hc hS => by
  obtain ⟨c, rfl, hR⟩ := capF_spec hS
  clear hS
  simp only [spec_br, spec_ok] at hR
  cases hr : rightB c with
  | false =>
    have hQ := hR.2 hr
    clear hR
    obtain ⟨t, o, b, d, e, g, i, j, k, l, m⟩ := c
    simp only [Cap.cl]
    simp (config := { maxSteps := 10000000 }) only [EV1, EV2, EV3, EV4, EV5, EV6, addT, istep, pickR, putD, bin1R, un1R, slcR, bnd, capsOf, fillP, V.plain, V.cells, V.known, C.v, blk, setL, setH, eqS, eq1, cmpS, cmp1, isNil, popTo, killT, setT, leT, V.below, S.below, R.below, V.val, C.val, S.val, R.val, R.takes, vals, shows, unnamed, V.kill, V.names, C.names, S.names, R.names, List.set, List.replicate, ↓q_cond_t, ↓q_cond_f, if_true, if_false, reduceCtorEq, rvals, rvC, result, C.known, V.noL, C.noL, S.noL, R.noL, Option.map, true_and, and_true, ge_iff_le, gt_iff_lt, implies_true, q_ite_t, q_ite_f, beq_iff_eq, bne_iff_ne, q_ne, Nat.reduceAdd, Nat.reducePow, Int.reducePow, Nat.reduceMul, Nat.reduceSub, Nat.reduceLeDiff, Nat.reduceLT, Nat.reduceEqDiff, Int.reduceNeg, Int.reduceLT, Int.reduceLE, Int.reduceEq, Int.reduceNe, Int.reduceAdd, Int.reduceSub, Int.reduceMul, Int.reduceToNat, Int.reduceBEq, Int.reduceBNe, df17, TE, rightG, capF, hr]
    exact hQ
  | true =>
    have hQ := hR.1 hr
    clear hR
    have hb := right_bounds hr
    have eB := fs_B hb
    have eV := fs_V hb
    obtain ⟨t, o, b, d, e, g, i, j, k, l, m⟩ := c
    obtain ⟨h1, h2, h3, h4, h5, h6, h7, h8, h9, h10, h11, _⟩ := hb
    simp only at h1 h2 h3 h4 h5 h6 h7 h8 h9 h10 h11
    simp only [Cap.fs] at eB eV
    have u1 := wrapu h1.1 (by omega)
    have u2 := wrapu h2.1 (by omega)
    have u3 := wrapu h3.1 (by omega)
    have u4 := wrapu h4.1 (by omega)
    have u5 := wrapu h5.1 (by omega)
    have u6 := wrapu h6.1 (by omega)
    have u7 := wrapu h7.1 (by omega)
    simp only [Cap.cl]
    simp (config := { maxSteps := 10000000 }) only [EV1, EV2, EV3, EV4, EV5, EV6, addT, istep, pickR, putD, bin1R, un1R, slcR, bnd, capsOf, fillP, V.plain, V.cells, V.known, C.v, blk, setL, setH, eqS, eq1, cmpS, cmp1, isNil, popTo, killT, setT, leT, V.below, S.below, R.below, V.val, C.val, S.val, R.val, R.takes, vals, shows, unnamed, V.kill, V.names, C.names, S.names, R.names, List.set, List.replicate, ↓q_cond_t, ↓q_cond_f, if_true, if_false, reduceCtorEq, rvals, rvC, result, C.known, V.noL, C.noL, S.noL, R.noL, Option.map, true_and, and_true, ge_iff_le, gt_iff_lt, implies_true, q_ite_t, q_ite_f, beq_iff_eq, bne_iff_ne, q_ne, Nat.reduceAdd, Nat.reducePow, Int.reducePow, Nat.reduceMul, Nat.reduceSub, Nat.reduceLeDiff, Nat.reduceLT, Nat.reduceEqDiff, Int.reduceNeg, Int.reduceLT, Int.reduceLE, Int.reduceEq, Int.reduceNe, Int.reduceAdd, Int.reduceSub, Int.reduceMul, Int.reduceToNat, Int.reduceBEq, Int.reduceBNe, df17, TE, rightG, fldG, numG, packG, capF, hr, u1, u2, u3, u4, u5, u6, u7, put, fillP, R.lend, R.unlend, S.ren, C.ren, V.ren, Blk.ren, take_app, drop_app, Nat.not_lt_zero, Nat.lt_irrefl, Nat.add_sub_cancel_left, Nat.not_lt, Nat.le_add_right, decF, arr, Fd.c, List.take, eB, eV]
    have n1 : IntKind.i64.wrap (d + e) = d + e := wrap64 (by omega) (by omega)
    have n2 : IntKind.i64.wrap (d + e + i) = d + e + i := wrap64 (by omega) (by omega)
    have n3 : IntKind.i64.wrap (d + e + i + l) = d + e + i + l := wrap64 (by omega) (by omega)
    have n4 : IntKind.u64.wrap (d + e + i + l) = d + e + i + l := wrapu (by omega) (by omega)
    rw [n1, n2, n3, n4]
    refine ⟨?_, hc, hQ⟩
    intro f hf
    simp only [List.mem_cons, List.not_mem_nil, or_false] at hf
    rcases hf with rfl | rfl | rfl | rfl | rfl | rfl | rfl <;> simp only [u64] <;> omega
end Go.Proofs.Ythegocjfnjfkdaa

/- The document's caps: Only, size, address, in. -/
namespace Go.Proofs.Ythegocjfnjfkdaa
open Go.D
set_option linter.all false
set_option maxRecDepth 100000
set_option maxHeartbeats 4000000

def onlyC (c : Cap) : Cap :=
  if c.ty = 1 then ⟨1, c.obj, c.bits, c.mark, 0, 0, 0, 0, 0, 0, 0⟩ else if c.ty = 2 then ⟨2, c.obj, c.bits, 0, c.guard, c.gbits, 0, 0, 0, 0, 0⟩
  else if c.ty = 4 then ⟨4, c.obj, 0, 0, 0, 0, c.badge, c.rights, 0, 0, 0⟩ else if c.ty = 5 then ⟨5, c.obj, 0, 0, 0, 0, c.badge, c.rights, 0, 0, 0⟩
  else if c.ty = 3 then ⟨3, c.obj, 0, 0, 0, 0, 0, 0, 0, 0, 0⟩ else if c.ty = 9 then ⟨9, c.obj, 0, 0, 0, 0, 0, 0, 0, 0, 0⟩
  else if c.ty = 6 then ⟨6, c.obj, 0, 0, 0, 0, 0, 0, c.asid, c.vaddr, 0⟩ else if c.ty = 7 then ⟨7, c.obj, 0, 0, 0, 0, 0, 0, c.asid, 0, 0⟩
  else if c.ty = 8 then ⟨8, c.obj, 0, 0, 0, 0, 0, c.rights, c.asid, c.vaddr, 0⟩ else if c.ty = 10 then ⟨10, c.obj, c.bits, c.mark, 0, 0, 0, 0, 0, 0, 0⟩
  else if c.ty = 12 then ⟨12, 0, 0, 0, 0, 0, 0, 0, 0, 0, c.line⟩ else ⟨c.ty, 0, 0, 0, 0, 0, 0, 0, 0, 0, 0⟩

def onlyG (args : List V) (h : List Blk) : Res := capF (fun c => .ok (.agg (onlyC c).cl) [] h) args
theorem only_snd : Snd Try.prog 53 (FSpec.of onlyG) := snd_run (noT_snd _) mixed Try.func53 dc53 100 fun args h K _ hS => by
  obtain ⟨⟨t, o, b, d, e, g, i, j, k, l, m⟩, rfl, hR⟩ := capF_spec hS
  simp only [Cap.cl, spec_ok, onlyC] at hR ⊢
  rcases kinds t with rfl | rfl | rfl | rfl | rfl | rfl | rfl | rfl | rfl | rfl | rfl | rfl | rfl | rfl | ⟨k0, k1, k2, k3, k4, k5, k6, k7, k8, k9, k10, k11, k12, k13, ho⟩
  all_goals try simp only [k1, k2, k3, k4, k5, k6, k7, k8, k9, k10, k12, if_false] at hR
  all_goals try simp only [Int.reduceEq, if_true, if_false] at hR
  all_goals try simp (config := { maxSteps := 10000000 }) only [EV1, EV2, EV3, EV4, EV5, EV6, addT, istep, pickR, putD, bin1R, un1R, slcR, bnd, capsOf, fillP, V.plain, V.cells, V.known, C.v, blk, setL, setH, eqS, eq1, cmpS, cmp1, isNil, popTo, killT, setT, leT, V.below, S.below, R.below, V.val, C.val, S.val, R.val, R.takes, vals, shows, unnamed, V.kill, V.names, C.names, S.names, R.names, List.set, List.replicate, ↓q_cond_t, ↓q_cond_f, if_true, if_false, reduceCtorEq, rvals, rvC, result, C.known, V.noL, C.noL, S.noL, R.noL, Option.map, true_and, and_true, ge_iff_le, gt_iff_lt, implies_true, q_ite_t, q_ite_f, beq_iff_eq, bne_iff_ne, q_ne, Nat.reduceAdd, Nat.reducePow, Int.reducePow, Nat.reduceMul, Nat.reduceSub, Nat.reduceLeDiff, Nat.reduceLT, Nat.reduceEqDiff, Int.reduceNeg, Int.reduceLT, Int.reduceLE, Int.reduceEq, Int.reduceNe, Int.reduceAdd, Int.reduceSub, Int.reduceMul, Int.reduceToNat, Int.reduceBEq, Int.reduceBNe, df53, k1, k2, k3, k4, k5, k6, k7, k8, k9, k10, k12, put]
  all_goals try simp (config := { maxSteps := 10000000 }) only [EV1, EV2, EV3, EV4, EV5, EV6, addT, istep, pickR, putD, bin1R, un1R, slcR, bnd, capsOf, fillP, V.plain, V.cells, V.known, C.v, blk, setL, setH, eqS, eq1, cmpS, cmp1, isNil, popTo, killT, setT, leT, V.below, S.below, R.below, V.val, C.val, S.val, R.val, R.takes, vals, shows, unnamed, V.kill, V.names, C.names, S.names, R.names, List.set, List.replicate, ↓q_cond_t, ↓q_cond_f, if_true, if_false, reduceCtorEq, rvals, rvC, result, C.known, V.noL, C.noL, S.noL, R.noL, Option.map, true_and, and_true, ge_iff_le, gt_iff_lt, implies_true, q_ite_t, q_ite_f, beq_iff_eq, bne_iff_ne, q_ne, Nat.reduceAdd, Nat.reducePow, Int.reducePow, Nat.reduceMul, Nat.reduceSub, Nat.reduceLeDiff, Nat.reduceLT, Nat.reduceEqDiff, Int.reduceNeg, Int.reduceLT, Int.reduceLE, Int.reduceEq, Int.reduceNe, Int.reduceAdd, Int.reduceSub, Int.reduceMul, Int.reduceToNat, Int.reduceBEq, Int.reduceBNe, df53, put]
  all_goals try exact hR

def shR (a b : Int) : Int := IntKind.i64.wrap (a * 2 ^ min b.toNat IntKind.i64.bits)
def rszN (c : Cap) : Int :=
  if c.ty = 1 then (if 4 ≤ c.bits ∧ c.bits ≤ 15 then shR 1 c.bits else 0) else if c.ty = 2 then (if 1 ≤ c.bits ∧ c.bits ≤ 8 then shR 4 c.bits else 0)
  else if c.ty = 10 then (if 1 ≤ c.bits ∧ c.bits ≤ 8 then shR 4 c.bits else if c.bits = 31 then 64 else 0)
  else if c.ty = 3 then 64 else if c.ty = 9 then 64 else if c.ty = 4 then 4 else if c.ty = 5 then 8 else if c.ty = 6 then 8 else if c.ty = 7 then 8 else if c.ty = 8 then 16 else 0
def sizeG (args : List V) (h : List Blk) : Res := capF (fun c => .ok (.s (.i .i64 (rszN c))) [] h) args
theorem rsize_snd : Snd Try.prog 54 (FSpec.of sizeG) := snd_run (noT_snd _) mixed Try.func54 dc54 100 fun args h K _ hS => by
  obtain ⟨⟨t, o, b, d, e, g, i, j, k, l, m⟩, rfl, hR⟩ := capF_spec hS
  simp only [Cap.cl, spec_ok, rszN, shR] at hR ⊢
  rcases kinds t with rfl | rfl | rfl | rfl | rfl | rfl | rfl | rfl | rfl | rfl | rfl | rfl | rfl | rfl | ⟨k0, k1, k2, k3, k4, k5, k6, k7, k8, k9, k10, k11, k12, k13, ho⟩
  all_goals try simp only [k1, k2, k3, k4, k5, k6, k7, k8, k9, k10, k12, if_false] at hR
  all_goals try simp only [Int.reduceEq, if_true, if_false] at hR
  all_goals try simp (config := { maxSteps := 10000000 }) only [EV1, EV2, EV3, EV4, EV5, EV6, addT, istep, pickR, putD, bin1R, un1R, slcR, bnd, capsOf, fillP, V.plain, V.cells, V.known, C.v, blk, setL, setH, eqS, eq1, cmpS, cmp1, isNil, popTo, killT, setT, leT, V.below, S.below, R.below, V.val, C.val, S.val, R.val, R.takes, vals, shows, unnamed, V.kill, V.names, C.names, S.names, R.names, List.set, List.replicate, ↓q_cond_t, ↓q_cond_f, if_true, if_false, reduceCtorEq, rvals, rvC, result, C.known, V.noL, C.noL, S.noL, R.noL, Option.map, true_and, and_true, ge_iff_le, gt_iff_lt, implies_true, q_ite_t, q_ite_f, beq_iff_eq, bne_iff_ne, q_ne, Nat.reduceAdd, Nat.reducePow, Int.reducePow, Nat.reduceMul, Nat.reduceSub, Nat.reduceLeDiff, Nat.reduceLT, Nat.reduceEqDiff, Int.reduceNeg, Int.reduceLT, Int.reduceLE, Int.reduceEq, Int.reduceNe, Int.reduceAdd, Int.reduceSub, Int.reduceMul, Int.reduceToNat, Int.reduceBEq, Int.reduceBNe, df54, k1, k2, k3, k4, k5, k6, k7, k8, k9, k10, k12, put]
  all_goals try simp (config := { maxSteps := 10000000 }) only [EV1, EV2, EV3, EV4, EV5, EV6, addT, istep, pickR, putD, bin1R, un1R, slcR, bnd, capsOf, fillP, V.plain, V.cells, V.known, C.v, blk, setL, setH, eqS, eq1, cmpS, cmp1, isNil, popTo, killT, setT, leT, V.below, S.below, R.below, V.val, C.val, S.val, R.val, R.takes, vals, shows, unnamed, V.kill, V.names, C.names, S.names, R.names, List.set, List.replicate, ↓q_cond_t, ↓q_cond_f, if_true, if_false, reduceCtorEq, rvals, rvC, result, C.known, V.noL, C.noL, S.noL, R.noL, Option.map, true_and, and_true, ge_iff_le, gt_iff_lt, implies_true, q_ite_t, q_ite_f, beq_iff_eq, bne_iff_ne, q_ne, Nat.reduceAdd, Nat.reducePow, Int.reducePow, Nat.reduceMul, Nat.reduceSub, Nat.reduceLeDiff, Nat.reduceLT, Nat.reduceEqDiff, Int.reduceNeg, Int.reduceLT, Int.reduceLE, Int.reduceEq, Int.reduceNe, Int.reduceAdd, Int.reduceSub, Int.reduceMul, Int.reduceToNat, Int.reduceBEq, Int.reduceBNe, df54, put]
  all_goals try exact hR
  · exact ⟨fun h => by omega, close1 (P := fun n => K (V.s (S.i .i64 n)) h) hR⟩
  · exact ⟨fun h => by omega, close1 (P := fun n => K (V.s (S.i .i64 n)) h) hR⟩
  · have h1 := close1 (P := fun n => K (V.s (S.i .i64 n)) h) hR
    exact ⟨fun h => by omega, h1.1, fun n => close1 (P := fun n => K (V.s (S.i .i64 n)) h) (h1.2 n)⟩

def rinV (n a b : Int) : Bool := decide (a ≤ n) && decide (n ≤ b)
def rinG : List V → List Blk → Res
  | [.s (.i .i64 n), .s (.i .i64 a), .s (.i .i64 b)], h => .ok (.s (.b (rinV n a b))) [] h
  | _, _ => .bad
theorem rin_snd : Snd Try.prog 56 (FSpec.of rinG) := snd_run (noT_snd _) mixed Try.func56 dc56 100 fun args h K _ hS => by
  unfold rinG at hS
  split at hS
  · simp only [spec_ok, rinV] at hS
    simp (config := { maxSteps := 10000000 }) only [EV1, EV2, EV3, EV4, EV5, EV6, addT, istep, pickR, putD, bin1R, un1R, slcR, bnd, capsOf, fillP, V.plain, V.cells, V.known, C.v, blk, setL, setH, eqS, eq1, cmpS, cmp1, isNil, popTo, killT, setT, leT, V.below, S.below, R.below, V.val, C.val, S.val, R.val, R.takes, vals, shows, unnamed, V.kill, V.names, C.names, S.names, R.names, List.set, List.replicate, ↓q_cond_t, ↓q_cond_f, if_true, if_false, reduceCtorEq, rvals, rvC, result, C.known, V.noL, C.noL, S.noL, R.noL, Option.map, true_and, and_true, ge_iff_le, gt_iff_lt, implies_true, q_ite_t, q_ite_f, beq_iff_eq, bne_iff_ne, q_ne, Nat.reduceAdd, Nat.reducePow, Int.reducePow, Nat.reduceMul, Nat.reduceSub, Nat.reduceLeDiff, Nat.reduceLT, Nat.reduceEqDiff, Int.reduceNeg, Int.reduceLT, Int.reduceLE, Int.reduceEq, Int.reduceNe, Int.reduceAdd, Int.reduceSub, Int.reduceMul, Int.reduceToNat, Int.reduceBEq, Int.reduceBNe, df56]
    exact hS
  · exact hS.elim
def adrV (n w : Int) : Bool := decide (1024 ≤ n) && (decide (n ≤ 65535) && n.tmod w == 0)
def adrG : List V → List Blk → Res
  | [.s (.i .i64 n), .s (.i .i64 w)], h => .ob (0 < w) (.ok (.s (.b (adrV n w))) [] h)
  | _, _ => .bad
theorem adr_snd : Snd Try.prog 55 (FSpec.of adrG) := snd_run (noT_snd _) mixed Try.func55 dc55 100 fun args h K _ hS => by
  unfold adrG at hS
  split at hS
  · obtain ⟨hw, hS⟩ := hS
    simp only [spec_ok, adrV] at hS
    simp (config := { maxSteps := 10000000 }) only [EV1, EV2, EV3, EV4, EV5, EV6, addT, istep, pickR, putD, bin1R, un1R, slcR, bnd, capsOf, fillP, V.plain, V.cells, V.known, C.v, blk, setL, setH, eqS, eq1, cmpS, cmp1, isNil, popTo, killT, setT, leT, V.below, S.below, R.below, V.val, C.val, S.val, R.val, R.takes, vals, shows, unnamed, V.kill, V.names, C.names, S.names, R.names, List.set, List.replicate, ↓q_cond_t, ↓q_cond_f, if_true, if_false, reduceCtorEq, rvals, rvC, result, C.known, V.noL, C.noL, S.noL, R.noL, Option.map, true_and, and_true, ge_iff_le, gt_iff_lt, implies_true, q_ite_t, q_ite_f, beq_iff_eq, bne_iff_ne, q_ne, Nat.reduceAdd, Nat.reducePow, Int.reducePow, Nat.reduceMul, Nat.reduceSub, Nat.reduceLeDiff, Nat.reduceLT, Nat.reduceEqDiff, Int.reduceNeg, Int.reduceLT, Int.reduceLE, Int.reduceEq, Int.reduceNe, Int.reduceAdd, Int.reduceSub, Int.reduceMul, Int.reduceToNat, Int.reduceBEq, Int.reduceBNe, df55]
    exact ⟨fun _ _ => by omega, hS⟩
  · exact hS.elim
end Go.Proofs.Ythegocjfnjfkdaa

/- The document's caps: plain laws for Right. -/
namespace Go.Proofs.Ythegocjfnjfkdaa
open Go.D
set_option linter.all false
set_option maxRecDepth 100000
set_option maxHeartbeats 4000000

theorem adr_iff {o w : Int} : adrV o w = true ↔ ¬ (o < 1024 ∨ 65535 < o ∨ ¬ o.tmod w = 0) := by
  simp only [adrV, Bool.and_eq_true, decide_eq_true_eq, beq_iff_eq]; omega
theorem close3 {P : Bool → Prop} {A B : Prop} [Decidable A] [Decidable B] {q X X' : Bool} (hq : q = true ↔ ¬ B) (hx : X = X') (h : P (if A then (if B then false else X) else false)) :
    (¬ A → P false) ∧ (A → (¬ q = true → P false) ∧ (q = true → P X')) := by
  subst hx
  have h1 := close2 h
  exact ⟨h1.1, fun a => ⟨fun n => (close1 (h1.2 a)).1 (Classical.byContradiction fun c => n (hq.2 c)), fun y => (close1 (h1.2 a)).2 (hq.1 y)⟩⟩
theorem sz_law {P : Bool → Prop} {ok Z B : Prop} [Decidable ok] [Decidable Z] [Decidable B] {N N' : Int} {q X X' : Bool} (hN : ok → N' = N ∧ 0 < N) (hn : ¬ ok → N' = 0) (hq : ok → (q = true ↔ ¬ B)) (hx : ok → X' = X) (hz : ¬ ok → X' = false)
    (h : P (if ¬ ok ∨ ¬ Z then false else if 0 < N ∧ B then false else X)) :
    (¬ Z → P false) ∧ (Z → (0 < N' → (¬ q = true → P false) ∧ (q = true → P X')) ∧ (¬ 0 < N' → P X')) := by
  have h1 := close1 h
  refine ⟨fun z => h1.1 (.inr z), fun z => ?_⟩
  by_cases o : ok
  · have h2 := close1 (h1.2 fun c => c.elim (fun x => x o) (fun x => x z))
    obtain ⟨e, p⟩ := hN o
    rw [hx o, e]
    exact ⟨fun _ => ⟨fun n => h2.1 ⟨p, Classical.byContradiction fun c => n ((hq o).2 c)⟩, fun y => h2.2 fun c => (hq o).1 y c.2⟩, fun n => absurd p n⟩
  · rw [hz o, hn o]
    have f := h1.1 (.inl o)
    exact ⟨fun _ => ⟨fun _ => f, fun _ => f⟩, fun _ => f⟩
theorem pos2 (n : Nat) : (0 : Int) < 2 ^ n := Int.pow_pos (by decide)
theorem shR_u {b : Int} (h : 4 ≤ b ∧ b ≤ 15) : shR 1 b = uRaw b := by
  have : b = 4 ∨ b = 5 ∨ b = 6 ∨ b = 7 ∨ b = 8 ∨ b = 9 ∨ b = 10 ∨ b = 11 ∨ b = 12 ∨ b = 13 ∨ b = 14 ∨ b = 15 := by omega
  rcases this with rfl | rfl | rfl | rfl | rfl | rfl | rfl | rfl | rfl | rfl | rfl | rfl <;> decide
theorem shR_n {b : Int} (h : 1 ≤ b ∧ b ≤ 8) : shR 4 b = nRaw b := by
  have : b = 1 ∨ b = 2 ∨ b = 3 ∨ b = 4 ∨ b = 5 ∨ b = 6 ∨ b = 7 ∨ b = 8 := by omega
  rcases this with rfl | rfl | rfl | rfl | rfl | rfl | rfl | rfl <;> decide
theorem uRaw_pos {b : Int} (h : 4 ≤ b ∧ b ≤ 15) : 0 < uRaw b := by rw [uRaw_eq h]; exact pos2 _
theorem nRaw_pos {b : Int} (h : 1 ≤ b ∧ b ≤ 8) : 0 < nRaw b := by rw [nRaw_eq h]; have := pos2 b.toNat; omega

theorem pool_eq (k : Int) : (inV k 63 && k.tmod 8 == 0) = (rinV k 0 56 && k.tmod 8 == 0) := by
  rw [Bool.eq_iff_iff]
  simp only [inV, rinV, Bool.and_eq_true, decide_eq_true_eq, beq_iff_eq]
  constructor
  · rintro ⟨⟨h1, h2⟩, h3⟩
    rw [Int.tmod_eq_emod_of_nonneg h1] at h3
    exact ⟨⟨h1, by omega⟩, by rw [Int.tmod_eq_emod_of_nonneg h1]; exact h3⟩
  · rintro ⟨⟨h1, h2⟩, h3⟩
    exact ⟨⟨h1, by omega⟩, h3⟩
theorem table_eq (k l : Int) : mapV k l 1 = (rinV k 0 63 && (rinV l 0 65535 && (decide (0 < k) || l == 0))) := by
  simp [mapV, inV, rinV]
theorem frame_eq (k l : Int) (x : Bool) : (x && mapV k l 16) = (x && (rinV k 0 63 && (rinV l 0 65520 && (l.tmod 16 == 0 && (decide (0 < k) || l == 0))))) := by
  congr 1
  rw [Bool.eq_iff_iff]
  simp only [mapV, inV, rinV, Bool.and_eq_true, Bool.or_eq_true, decide_eq_true_eq, beq_iff_eq]
  constructor
  · rintro ⟨h0, ⟨h1, h2⟩, h3, h4⟩
    rw [Int.tmod_eq_emod_of_nonneg h1] at h3
    exact ⟨h0, ⟨h1, by omega⟩, by rw [Int.tmod_eq_emod_of_nonneg h1]; exact h3, h4⟩
  · rintro ⟨h0, ⟨h1, h2⟩, h3, h4⟩
    exact ⟨h0, ⟨h1, by omega⟩, h3, h4⟩
theorem zrange {b : Int} : ((if b = 31 then true else nOk b) = true) ↔ b = 31 ∨ (1 ≤ b ∧ b ≤ 8) := by
  split
  · simp [*]
  · rw [nOk_iff]; simp [*]

def TQ : Tab := addT 56 rinG (addT 55 adrG (addT 53 onlyG (addT 54 sizeG noT)))
theorem TQ_snd : TQ.Snd Try.prog := addT_snd ok56 rin_snd (addT_snd ok55 adr_snd (addT_snd ok53 only_snd (addT_snd ok54 rsize_snd (noT_snd _))))

theorem rright_snd : Snd Try.prog 16 (FSpec.of rightG) := snd_run TQ_snd mixed Try.func16 dc16 200 fun args h K _ hS => by
  obtain ⟨⟨t, o, b, d, e, g, i, j, k, l, m⟩, rfl, hR⟩ := capF_spec hS
  clear hS
  simp only [Cap.cl, spec_ok, rightB] at hR ⊢
  obtain ⟨P, hP⟩ : ∃ P : Bool → Prop, P = fun B => K (V.s (S.b B)) h := ⟨_, rfl⟩
  rcases kinds t with rfl | rfl | rfl | rfl | rfl | rfl | rfl | rfl | rfl | rfl | rfl | rfl | rfl | rfl | ⟨k0, k1, k2, k3, k4, k5, k6, k7, k8, k9, k10, k11, k12, k13, ho⟩
  all_goals try simp only [k0, k1, k2, k3, k4, k5, k6, k7, k8, k9, k10, k11, k12, k13, if_false] at hR
  all_goals try simp only [Int.reduceEq, if_true, if_false] at hR
  all_goals try simp (config := { maxSteps := 10000000 }) only [EV1, EV2, EV3, EV4, EV5, EV6, addT, istep, pickR, putD, bin1R, un1R, slcR, bnd, capsOf, fillP, V.plain, V.cells, V.known, C.v, blk, setL, setH, eqS, eq1, cmpS, cmp1, isNil, popTo, killT, setT, leT, V.below, S.below, R.below, V.val, C.val, S.val, R.val, R.takes, vals, shows, unnamed, V.kill, V.names, C.names, S.names, R.names, List.set, List.replicate, ↓q_cond_t, ↓q_cond_f, if_true, if_false, reduceCtorEq, rvals, rvC, result, C.known, V.noL, C.noL, S.noL, R.noL, Option.map, true_and, and_true, ge_iff_le, gt_iff_lt, implies_true, q_ite_t, q_ite_f, beq_iff_eq, bne_iff_ne, q_ne, Nat.reduceAdd, Nat.reducePow, Int.reducePow, Nat.reduceMul, Nat.reduceSub, Nat.reduceLeDiff, Nat.reduceLT, Nat.reduceEqDiff, Int.reduceNeg, Int.reduceLT, Int.reduceLE, Int.reduceEq, Int.reduceNe, Int.reduceAdd, Int.reduceSub, Int.reduceMul, Int.reduceToNat, Int.reduceBEq, Int.reduceBNe, df16, TQ, rinG, adrG, onlyG, sizeG, capF, rszN, onlyC, Cap.cl, k0, k1, k2, k3, k4, k5, k6, k7, k8, k9, k10, k11, k12, k13]
  all_goals try simp (config := { maxSteps := 10000000 }) only [EV1, EV2, EV3, EV4, EV5, EV6, addT, istep, pickR, putD, bin1R, un1R, slcR, bnd, capsOf, fillP, V.plain, V.cells, V.known, C.v, blk, setL, setH, eqS, eq1, cmpS, cmp1, isNil, popTo, killT, setT, leT, V.below, S.below, R.below, V.val, C.val, S.val, R.val, R.takes, vals, shows, unnamed, V.kill, V.names, C.names, S.names, R.names, List.set, List.replicate, ↓q_cond_t, ↓q_cond_f, if_true, if_false, reduceCtorEq, rvals, rvC, result, C.known, V.noL, C.noL, S.noL, R.noL, Option.map, true_and, and_true, ge_iff_le, gt_iff_lt, implies_true, q_ite_t, q_ite_f, beq_iff_eq, bne_iff_ne, q_ne, Nat.reduceAdd, Nat.reducePow, Int.reducePow, Nat.reduceMul, Nat.reduceSub, Nat.reduceLeDiff, Nat.reduceLT, Nat.reduceEqDiff, Int.reduceNeg, Int.reduceLT, Int.reduceLE, Int.reduceEq, Int.reduceNe, Int.reduceAdd, Int.reduceSub, Int.reduceMul, Int.reduceToNat, Int.reduceBEq, Int.reduceBNe, df16, TQ, rinG, adrG, onlyG, sizeG, capF, rszN, onlyC, Cap.cl]
  · exact close2 (P := fun B => K (V.s (S.b B)) h) hR
  · refine ⟨fun _ h => h, sz_law (P := fun B => K (V.s (S.b B)) h) ?_ ?_ ?_ ?_ ?_ hR⟩
    · intro ok; rw [if_pos ok, shR_u ok]; exact ⟨rfl, uRaw_pos ok⟩
    · intro ok; rw [if_neg ok]
    · intro ok; rw [if_pos ok, shR_u ok]; exact adr_iff
    · intro ok; rw [if_pos ok, shR_u ok, decide_eq_true (uRaw_pos ok)]; rfl
    · intro ok; rw [if_neg ok]; rfl
  · refine ⟨fun _ _ _ y => (inV_iff.1 y).1, fun _ h => h, fun _ _ _ _ y => (inV_iff.1 y).1, sz_law (P := fun B => K (V.s (S.b B)) h) ?_ ?_ ?_ ?_ ?_ hR⟩
    · intro ok; have ok := nOk_iff.1 ok; rw [if_pos ok, shR_n ok]; exact ⟨rfl, nRaw_pos ok⟩
    · intro ok; have ok := fun x => ok (nOk_iff.2 x); rw [if_neg ok]
    · intro ok; have ok := nOk_iff.1 ok; rw [if_pos ok, shR_n ok]; exact adr_iff
    · intro ok; have ok := nOk_iff.1 ok; rw [if_pos ok, shR_n ok, decide_eq_true (nRaw_pos ok)]; rfl
    · intro ok; have ok := fun x => ok (nOk_iff.2 x); rw [if_neg ok]; rfl
  · exact close3 (P := fun B => K (V.s (S.b B)) h) adr_iff rfl hR
  · exact close3 (P := fun B => K (V.s (S.b B)) h) adr_iff rfl hR
  · exact close3 (P := fun B => K (V.s (S.b B)) h) adr_iff rfl hR
  · exact close3 (P := fun B => K (V.s (S.b B)) h) adr_iff (table_eq _ _) hR
  · exact close3 (P := fun B => K (V.s (S.b B)) h) adr_iff (pool_eq _) hR
  · exact close3 (P := fun B => K (V.s (S.b B)) h) adr_iff (frame_eq _ _ _) hR
  · exact close3 (P := fun B => K (V.s (S.b B)) h) adr_iff rfl hR
  · have r := sz_law (P := fun B => K (V.s (S.b B)) h) (N' := if 1 ≤ b ∧ b ≤ 8 then shR 4 b else if b = 31 then 64 else 0) (q := adrV o (if 1 ≤ b ∧ b ≤ 8 then shR 4 b else if b = 31 then 64 else 0))
      (X' := if b = 31 then rinV d 0 3 else decide (0 < if 1 ≤ b ∧ b ≤ 8 then shR 4 b else if b = 31 then 64 else 0) && rinV d 0 (IntKind.i64.wrap ((if 1 ≤ b ∧ b ≤ 8 then shR 4 b else if b = 31 then 64 else 0).tdiv 4))) ?_ ?_ ?_ ?_ ?_ hR
    · exact ⟨fun _ h => h, r.1, fun z => ⟨fun p => ⟨((r.2 z).1 p).1, fun a => close1 (P := fun B => K (V.s (S.b B)) h) (((r.2 z).1 p).2 a)⟩, fun p => close1 (P := fun B => K (V.s (S.b B)) h) ((r.2 z).2 p)⟩⟩
    · intro ok
      rcases zrange.1 ok with rfl | ok
      · exact ⟨rfl, by decide⟩
      · rw [if_pos ok, shR_n ok, if_neg (by omega)]; exact ⟨rfl, nRaw_pos ok⟩
    · intro ok
      have ok := fun x => ok (zrange.2 x)
      rw [if_neg (fun x => ok (.inr x)), if_neg (fun x => ok (.inl x))]
    · intro ok
      rcases zrange.1 ok with rfl | ok
      · exact adr_iff
      · rw [if_pos ok, shR_n ok, if_neg (by omega)]; exact adr_iff
    · intro ok
      rcases zrange.1 ok with rfl | ok
      · rfl
      · rw [if_pos ok, shR_n ok, if_neg (by omega), if_neg (by omega), decide_eq_true (nRaw_pos ok), if_neg (by omega)]; rfl
    · intro ok
      have ok := fun x => ok (zrange.2 x)
      rw [if_neg (fun x => ok (.inr x)), if_neg (fun x => ok (.inl x)), if_neg (fun x => ok (.inl x))]; rfl
  · exact close2 (P := fun B => K (V.s (S.b B)) h) hR
  · exact close2 (P := fun B => K (V.s (S.b B)) h) hR
  · exact close2 (P := fun B => K (V.s (S.b B)) h) hR
  · exact ⟨fun _ => hR, fun _ => hR⟩
end Go.Proofs.Ythegocjfnjfkdaa

/- The document's Encode. -/
namespace Go.Proofs.Ythegocjfnjfkdaa
open Go.D
set_option linter.all false
set_option maxRecDepth 100000
set_option maxHeartbeats 4000000

def TF : Tab := addT 16 rightG noT
theorem TF_snd : TF.Snd Try.prog := addT_snd ok16 rright_snd (noT_snd _)
theorem renc_snd : Snd Try.prog 18 (FSpec.of encG) := snd_run TF_snd mixed Try.func18 dc18 200 fun args h K hc hS => by
  obtain ⟨c, rfl, hR⟩ := capF_spec hS
  clear hS
  simp only [spec_br, spec_ok] at hR
  cases hr : rightB c with
  | false =>
    have hQ := hR.2 hr
    clear hR
    obtain ⟨t, o, b, d, e, g, i, j, k, l, m⟩ := c
    simp only [Cap.cl]
    simp (config := { maxSteps := 10000000 }) only [EV1, EV2, EV3, EV4, EV5, EV6, addT, istep, pickR, putD, bin1R, un1R, slcR, bnd, capsOf, fillP, V.plain, V.cells, V.known, C.v, blk, setL, setH, eqS, eq1, cmpS, cmp1, isNil, popTo, killT, setT, leT, V.below, S.below, R.below, V.val, C.val, S.val, R.val, R.takes, vals, shows, unnamed, V.kill, V.names, C.names, S.names, R.names, List.set, List.replicate, ↓q_cond_t, ↓q_cond_f, if_true, if_false, reduceCtorEq, rvals, rvC, result, C.known, V.noL, C.noL, S.noL, R.noL, Option.map, true_and, and_true, ge_iff_le, gt_iff_lt, implies_true, q_ite_t, q_ite_f, beq_iff_eq, bne_iff_ne, q_ne, Nat.reduceAdd, Nat.reducePow, Int.reducePow, Nat.reduceMul, Nat.reduceSub, Nat.reduceLeDiff, Nat.reduceLT, Nat.reduceEqDiff, Int.reduceNeg, Int.reduceLT, Int.reduceLE, Int.reduceEq, Int.reduceNe, Int.reduceAdd, Int.reduceSub, Int.reduceMul, Int.reduceToNat, Int.reduceBEq, Int.reduceBNe, df18, TF, rightG, capF, hr]
    exact hQ
  | true =>
    have hQ := hR.1 hr
    clear hR
    have hb := right_bounds hr
    obtain ⟨t, o, b, d, e, g, i, j, k, l, m⟩ := c
    obtain ⟨h1, h2, h3, h4, h5, h6, h7, h8, h9, h10, h11, one⟩ := hb
    simp only at h1 h2 h3 h4 h5 h6 h7 h8 h9 h10 h11 one
    have u1 := wrapu h1.1 (by omega)
    have u2 := wrapu h2.1 (by omega)
    have u3 := wrapu h3.1 (by omega)
    have u4 := wrapu h4.1 (by omega)
    have u5 := wrapu h5.1 (by omega)
    have u6 := wrapu h6.1 (by omega)
    have u7 := wrapu h7.1 (by omega)
    have m4 : min 4 IntKind.u64.bits = 4 := rfl
    have m20 : min 20 IntKind.u64.bits = 20 := rfl
    have m25 : min 25 IntKind.u64.bits = 25 := rfl
    have m28 : min 28 IntKind.u64.bits = 28 := rfl
    have m32 : min 32 IntKind.u64.bits = 32 := rfl
    have m38 : min 38 IntKind.u64.bits = 38 := rfl
    have v2 : IntKind.u64.wrap (o * 16) = o * 16 := wrapu (by omega) (by omega)
    have v3 : IntKind.u64.wrap (b * 1048576) = b * 1048576 := wrapu (by omega) (by omega)
    have v4 : IntKind.u64.wrap (j * 33554432) = j * 33554432 := wrapu (by omega) (by omega)
    have v5 : IntKind.u64.wrap (m * 268435456) = m * 268435456 := wrapu (by omega) (by omega)
    have v6 : IntKind.u64.wrap (k * 4294967296) = k * 4294967296 := wrapu (by omega) (by omega)
    have v7 : IntKind.u64.wrap (g * 274877906944) = g * 274877906944 := wrapu (by omega) (by omega)
    have s2 : IntKind.u64.wrap (t + o * 16) = t + o * 16 := wrapu (by omega) (by omega)
    have s3 : IntKind.u64.wrap (t + o * 16 + b * 1048576) = t + o * 16 + b * 1048576 := wrapu (by omega) (by omega)
    have s4 : IntKind.u64.wrap (t + o * 16 + b * 1048576 + j * 33554432) = t + o * 16 + b * 1048576 + j * 33554432 := wrapu (by omega) (by omega)
    have s5 : IntKind.u64.wrap (t + o * 16 + b * 1048576 + j * 33554432 + m * 268435456) = t + o * 16 + b * 1048576 + j * 33554432 + m * 268435456 := wrapu (by omega) (by omega)
    have s6 : IntKind.u64.wrap (t + o * 16 + b * 1048576 + j * 33554432 + m * 268435456 + k * 4294967296) = t + o * 16 + b * 1048576 + j * 33554432 + m * 268435456 + k * 4294967296 := wrapu (by omega) (by omega)
    have s7 : IntKind.u64.wrap (t + o * 16 + b * 1048576 + j * 33554432 + m * 268435456 + k * 4294967296 + g * 274877906944) = t + o * 16 + b * 1048576 + j * 33554432 + m * 268435456 + k * 4294967296 + g * 274877906944 := wrapu (by omega) (by omega)
    have w0 : (⟨t, o, b, d, e, g, i, j, k, l, m⟩ : Cap).w0 = t + o * 16 + b * 1048576 + j * 33554432 + m * 268435456 + k * 4294967296 + g * 274877906944 := by simp only [Cap.w0]; omega
    have w1 : (⟨t, o, b, d, e, g, i, j, k, l, m⟩ : Cap).num = d + e + i + l := rfl
    rw [w0, w1] at hQ
    have x1 := wrapu (n := d) (by omega) (by omega)
    have x2 := wrapu (n := e) (by omega) (by omega)
    have x3 := wrapu (n := i) (by omega) (by omega)
    have x4 := wrapu (n := l) (by omega) (by omega)
    simp only [Cap.cl]
    have kk : t = 2 ∨ t = 4 ∨ t = 5 ∨ t = 6 ∨ t = 8 ∨ (¬ t = 2 ∧ ¬ t = 4 ∧ ¬ t = 5 ∧ ¬ t = 6 ∧ ¬ t = 8) := by omega
    rcases kk with ht | ht | ht | ht | ht | ⟨k2, k4, k5, k6, k8⟩
    case inr.inr.inr.inr.inr =>
      have eq : d + e + i + l = d := by simp only [k2, k4, k5, k6, k8, if_false, or_self] at one; omega
      rw [eq] at hQ
      simp (config := { maxSteps := 10000000 }) only [EV1, EV2, EV3, EV4, EV5, EV6, addT, istep, pickR, putD, bin1R, un1R, slcR, bnd, capsOf, fillP, V.plain, V.cells, V.known, C.v, blk, setL, setH, eqS, eq1, cmpS, cmp1, isNil, popTo, killT, setT, leT, V.below, S.below, R.below, V.val, C.val, S.val, R.val, R.takes, vals, shows, unnamed, V.kill, V.names, C.names, S.names, R.names, List.set, List.replicate, ↓q_cond_t, ↓q_cond_f, if_true, if_false, reduceCtorEq, rvals, rvC, result, C.known, V.noL, C.noL, S.noL, R.noL, Option.map, true_and, and_true, ge_iff_le, gt_iff_lt, implies_true, q_ite_t, q_ite_f, beq_iff_eq, bne_iff_ne, q_ne, Nat.reduceAdd, Nat.reducePow, Int.reducePow, Nat.reduceMul, Nat.reduceSub, Nat.reduceLeDiff, Nat.reduceLT, Nat.reduceEqDiff, Int.reduceNeg, Int.reduceLT, Int.reduceLE, Int.reduceEq, Int.reduceNe, Int.reduceAdd, Int.reduceSub, Int.reduceMul, Int.reduceToNat, Int.reduceBEq, Int.reduceBNe, df18, TF, rightG, capF, hr, u1, u2, u3, u4, u5, u6, u7, m4, m20, m25, m28, m32, m38, v2, v3, v4, v5, v6, v7, s2, s3, s4, s5, s6, s7, x1, k2, k4, k5, k6, k8]
      exact hQ
    case inl =>
      have eq : d + e + i + l = e := by simp only [ht, if_true] at one; omega
      rw [eq] at hQ
      subst ht
      simp (config := { maxSteps := 10000000 }) only [EV1, EV2, EV3, EV4, EV5, EV6, addT, istep, pickR, putD, bin1R, un1R, slcR, bnd, capsOf, fillP, V.plain, V.cells, V.known, C.v, blk, setL, setH, eqS, eq1, cmpS, cmp1, isNil, popTo, killT, setT, leT, V.below, S.below, R.below, V.val, C.val, S.val, R.val, R.takes, vals, shows, unnamed, V.kill, V.names, C.names, S.names, R.names, List.set, List.replicate, ↓q_cond_t, ↓q_cond_f, if_true, if_false, reduceCtorEq, rvals, rvC, result, C.known, V.noL, C.noL, S.noL, R.noL, Option.map, true_and, and_true, ge_iff_le, gt_iff_lt, implies_true, q_ite_t, q_ite_f, beq_iff_eq, bne_iff_ne, q_ne, Nat.reduceAdd, Nat.reducePow, Int.reducePow, Nat.reduceMul, Nat.reduceSub, Nat.reduceLeDiff, Nat.reduceLT, Nat.reduceEqDiff, Int.reduceNeg, Int.reduceLT, Int.reduceLE, Int.reduceEq, Int.reduceNe, Int.reduceAdd, Int.reduceSub, Int.reduceMul, Int.reduceToNat, Int.reduceBEq, Int.reduceBNe, df18, TF, rightG, capF, hr, u1, u2, u3, u4, u5, u6, u7, m4, m20, m25, m28, m32, m38, v2, v3, v4, v5, v6, v7, s2, s3, s4, s5, s6, s7, x2]
      exact hQ
    case inr.inl =>
      have eq : d + e + i + l = i := by simp only [ht, Int.reduceEq, if_false, or_false, true_or, if_true] at one; omega
      rw [eq] at hQ
      subst ht
      simp (config := { maxSteps := 10000000 }) only [EV1, EV2, EV3, EV4, EV5, EV6, addT, istep, pickR, putD, bin1R, un1R, slcR, bnd, capsOf, fillP, V.plain, V.cells, V.known, C.v, blk, setL, setH, eqS, eq1, cmpS, cmp1, isNil, popTo, killT, setT, leT, V.below, S.below, R.below, V.val, C.val, S.val, R.val, R.takes, vals, shows, unnamed, V.kill, V.names, C.names, S.names, R.names, List.set, List.replicate, ↓q_cond_t, ↓q_cond_f, if_true, if_false, reduceCtorEq, rvals, rvC, result, C.known, V.noL, C.noL, S.noL, R.noL, Option.map, true_and, and_true, ge_iff_le, gt_iff_lt, implies_true, q_ite_t, q_ite_f, beq_iff_eq, bne_iff_ne, q_ne, Nat.reduceAdd, Nat.reducePow, Int.reducePow, Nat.reduceMul, Nat.reduceSub, Nat.reduceLeDiff, Nat.reduceLT, Nat.reduceEqDiff, Int.reduceNeg, Int.reduceLT, Int.reduceLE, Int.reduceEq, Int.reduceNe, Int.reduceAdd, Int.reduceSub, Int.reduceMul, Int.reduceToNat, Int.reduceBEq, Int.reduceBNe, df18, TF, rightG, capF, hr, u1, u2, u3, u4, u5, u6, u7, m4, m20, m25, m28, m32, m38, v2, v3, v4, v5, v6, v7, s2, s3, s4, s5, s6, s7, x3]
      exact hQ
    case inr.inr.inl =>
      have eq : d + e + i + l = i := by simp only [ht, Int.reduceEq, if_false, or_true, if_true] at one; omega
      rw [eq] at hQ
      subst ht
      simp (config := { maxSteps := 10000000 }) only [EV1, EV2, EV3, EV4, EV5, EV6, addT, istep, pickR, putD, bin1R, un1R, slcR, bnd, capsOf, fillP, V.plain, V.cells, V.known, C.v, blk, setL, setH, eqS, eq1, cmpS, cmp1, isNil, popTo, killT, setT, leT, V.below, S.below, R.below, V.val, C.val, S.val, R.val, R.takes, vals, shows, unnamed, V.kill, V.names, C.names, S.names, R.names, List.set, List.replicate, ↓q_cond_t, ↓q_cond_f, if_true, if_false, reduceCtorEq, rvals, rvC, result, C.known, V.noL, C.noL, S.noL, R.noL, Option.map, true_and, and_true, ge_iff_le, gt_iff_lt, implies_true, q_ite_t, q_ite_f, beq_iff_eq, bne_iff_ne, q_ne, Nat.reduceAdd, Nat.reducePow, Int.reducePow, Nat.reduceMul, Nat.reduceSub, Nat.reduceLeDiff, Nat.reduceLT, Nat.reduceEqDiff, Int.reduceNeg, Int.reduceLT, Int.reduceLE, Int.reduceEq, Int.reduceNe, Int.reduceAdd, Int.reduceSub, Int.reduceMul, Int.reduceToNat, Int.reduceBEq, Int.reduceBNe, df18, TF, rightG, capF, hr, u1, u2, u3, u4, u5, u6, u7, m4, m20, m25, m28, m32, m38, v2, v3, v4, v5, v6, v7, s2, s3, s4, s5, s6, s7, x3]
      exact hQ
    case inr.inr.inr.inl =>
      have eq : d + e + i + l = l := by simp only [ht, Int.reduceEq, if_false, or_self, true_or, if_true] at one; omega
      rw [eq] at hQ
      subst ht
      simp (config := { maxSteps := 10000000 }) only [EV1, EV2, EV3, EV4, EV5, EV6, addT, istep, pickR, putD, bin1R, un1R, slcR, bnd, capsOf, fillP, V.plain, V.cells, V.known, C.v, blk, setL, setH, eqS, eq1, cmpS, cmp1, isNil, popTo, killT, setT, leT, V.below, S.below, R.below, V.val, C.val, S.val, R.val, R.takes, vals, shows, unnamed, V.kill, V.names, C.names, S.names, R.names, List.set, List.replicate, ↓q_cond_t, ↓q_cond_f, if_true, if_false, reduceCtorEq, rvals, rvC, result, C.known, V.noL, C.noL, S.noL, R.noL, Option.map, true_and, and_true, ge_iff_le, gt_iff_lt, implies_true, q_ite_t, q_ite_f, beq_iff_eq, bne_iff_ne, q_ne, Nat.reduceAdd, Nat.reducePow, Int.reducePow, Nat.reduceMul, Nat.reduceSub, Nat.reduceLeDiff, Nat.reduceLT, Nat.reduceEqDiff, Int.reduceNeg, Int.reduceLT, Int.reduceLE, Int.reduceEq, Int.reduceNe, Int.reduceAdd, Int.reduceSub, Int.reduceMul, Int.reduceToNat, Int.reduceBEq, Int.reduceBNe, df18, TF, rightG, capF, hr, u1, u2, u3, u4, u5, u6, u7, m4, m20, m25, m28, m32, m38, v2, v3, v4, v5, v6, v7, s2, s3, s4, s5, s6, s7, x4]
      exact hQ
    case inr.inr.inr.inr.inl =>
      have eq : d + e + i + l = l := by simp only [ht, Int.reduceEq, if_false, or_self, or_true, if_true] at one; omega
      rw [eq] at hQ
      subst ht
      simp (config := { maxSteps := 10000000 }) only [EV1, EV2, EV3, EV4, EV5, EV6, addT, istep, pickR, putD, bin1R, un1R, slcR, bnd, capsOf, fillP, V.plain, V.cells, V.known, C.v, blk, setL, setH, eqS, eq1, cmpS, cmp1, isNil, popTo, killT, setT, leT, V.below, S.below, R.below, V.val, C.val, S.val, R.val, R.takes, vals, shows, unnamed, V.kill, V.names, C.names, S.names, R.names, List.set, List.replicate, ↓q_cond_t, ↓q_cond_f, if_true, if_false, reduceCtorEq, rvals, rvC, result, C.known, V.noL, C.noL, S.noL, R.noL, Option.map, true_and, and_true, ge_iff_le, gt_iff_lt, implies_true, q_ite_t, q_ite_f, beq_iff_eq, bne_iff_ne, q_ne, Nat.reduceAdd, Nat.reducePow, Int.reducePow, Nat.reduceMul, Nat.reduceSub, Nat.reduceLeDiff, Nat.reduceLT, Nat.reduceEqDiff, Int.reduceNeg, Int.reduceLT, Int.reduceLE, Int.reduceEq, Int.reduceNe, Int.reduceAdd, Int.reduceSub, Int.reduceMul, Int.reduceToNat, Int.reduceBEq, Int.reduceBNe, df18, TF, rightG, capF, hr, u1, u2, u3, u4, u5, u6, u7, m4, m20, m25, m28, m32, m38, v2, v3, v4, v5, v6, v7, s2, s3, s4, s5, s6, s7, x4]
      exact hQ
end Go.Proofs.Ythegocjfnjfkdaa

/- Package word: Unpack. -/
namespace Go.Proofs.Ythegocjfnjfkdaa
open Go.D
set_option linter.all false
set_option maxRecDepth 100000
set_option maxHeartbeats 4000000

def slT : List Int → Nat → V
  | [], _ => .s .ns
  | y :: M, c => .s (.sl (.l 0) 0 (M.length + 1) c)
def lsT : List Int → Nat → List Blk
  | [], _ => []
  | y :: M, c => [⟨.rw, arr Uc (y :: M), c⟩]

theorem uc_all (p : S → Bool) (hp : ∀ n, p (.i .u64 n) = true) (M : List Int) : (arr Uc M).all p = true := by
  rw [arr_all]; simp [Uc, hp]
theorem uc_ren (ρ : R → R) (M : List Int) : (arr Uc M).map (S.ren ρ) = arr Uc M := by
  induction M with
  | nil => rfl
  | cons y M ih => simp only [arr, List.map_append, ih]; rfl

theorem words_leave {h : List Blk} {K : V → List Blk → Prop} {y e : Int} {M : List Int} {c : Nat} (hc : M.length + 1 ≤ c) (hS : (wordsR (y :: M) (pairV e) h).spec K) :
    leaveB (.tup [.s (.sl (.l 0) 0 (M.length + 1) c), .s (.i .i64 e)]) [⟨.rw, arr Uc (y :: M), c⟩] h K false := by
  have hS := hS c hc
  refine ⟨[0], by simp, rfl, ?_⟩
  simp only [getAll, List.getElem?_cons_zero]
  refine ⟨?_, ?_⟩
  · simp only [List.all_cons, List.all_nil, decide_true, Bool.true_and, Bool.and_true]
    exact uc_all _ (fun _ => rfl) (y :: M)
  · refine cast ?_ hS
    simp only [List.map_cons, List.map_nil, Blk.ren, uc_ren]
    rfl

theorem div_dec (w a : Nat) : decide (((w : Int).toNat) / 2 ^ ((a : Int).toNat) = 0) = decide ((w : Int) / 2 ^ a = 0) := by
  simp only [Int.toNat_natCast]
  have : ((w : Int) / 2 ^ a = 0) ↔ w / 2 ^ a = 0 := by
    constructor
    · intro h; have : ((w / 2 ^ a : Nat) : Int) = 0 := by push_cast; exact h
      omega
    · intro h; have : ((w / 2 ^ a : Nat) : Int) = 0 := by rw [h]; rfl
      push_cast at this; exact this
  simp only [this]

theorem unpack_loop {h : List Blk} {K : V → List Blk → Prop} {k n c0 : Nat} {w : Nat} {B : Blk} {L : List Int} (hw : w < 18446744073709551616) (hk : h[k]? = some B) (hst : B.st ≠ .dead) (hB : B.cells = arr Ic L) (hn : n ≤ L.length) (hn64 : n ≤ 9223372036854775807) (hc : clean h.length h = true)
    (hS : (Res.br (unpackB (w : Int) (L.take n) 0) (wordsR (unpackV (w : Int) (L.take n) 0) (pairV 0) h) (.ok (.tup [.s .ns, .s (.i .i64 10)]) [] h)).spec K) :
    holds W2.Γ h.length (finP df60.res K) (run W2 100 [.c df60.body] ([V.s (.i .u64 w), V.s (.sl (.g k) 0 n c0)] ++ List.replicate 39 (.tup [])) [] h) := by
  simp only [spec_br, spec_ok] at hS
  obtain ⟨F, hF⟩ : ∃ F, F = L.take n := ⟨_, rfl⟩
  have hFl : F.length = n := by rw [hF]; simp; omega
  rw [← hF] at hS
  have hwu := u64_of hw
  simp (config := { maxSteps := 10000000 }) only [EV1, EV2, EV3, EV4, EV5, EV6, addT, istep, pickR, putD, bin1R, un1R, slcR, bnd, capsOf, fillP, V.plain, V.cells, V.known, C.v, blk, setL, setH, eqS, eq1, cmpS, cmp1, isNil, popTo, killT, setT, leT, V.below, S.below, R.below, V.val, C.val, S.val, R.val, R.takes, vals, shows, unnamed, V.kill, V.names, C.names, S.names, R.names, List.set, List.replicate, ↓q_cond_t, ↓q_cond_f, if_true, if_false, reduceCtorEq, rvals, rvC, result, C.known, V.noL, C.noL, S.noL, R.noL, Option.map, true_and, and_true, ge_iff_le, gt_iff_lt, implies_true, q_ite_t, q_ite_f, beq_iff_eq, bne_iff_ne, q_ne, Nat.reduceAdd, Nat.reducePow, Int.reducePow, Nat.reduceMul, Nat.reduceSub, Nat.reduceLeDiff, Nat.reduceLT, Nat.reduceEqDiff, Int.reduceNeg, Int.reduceLT, Int.reduceLE, Int.reduceEq, Int.reduceNe, Int.reduceAdd, Int.reduceSub, Int.reduceMul, Int.reduceToNat, Int.reduceBEq, Int.reduceBNe, df60]
  refine loop_rule (α := Nat × Nat × List Int × Nat) [4, 5, 6, 7, 9, 10, 11, 14, 15, 16, 17, 18, 19, 20, 21, 22, 23, 24, 25, 26, 27, 28, 29, 30, 31, 32, 33, 34, 35] (fun y => [(6, slT y.2.2.1 y.2.2.2), (7, .s (.i .i64 y.2.1)), (14, .s (.i .i64 y.1))]) (fun y => lsT y.2.2.1 y.2.2.2) (fun _ => h)
    (fun y => y.1 ≤ n ∧ y.2.1 ≤ 64 ∧ y.2.2.1.length = y.1 ∧ y.1 ≤ y.2.1 ∧ y.2.2.1.length ≤ y.2.2.2 ∧ unpackB w F 0 = unpackB w (F.drop y.1) y.2.1 ∧ unpackV w F 0 = y.2.2.1 ++ unpackV w (F.drop y.1) y.2.1) (fun y => n - y.1) (0, 0, [], 0) ⟨by simp, by simp, rfl, by simp, by simp, by simp, by simp⟩ (Wk.same rfl rfl ?_) ?_
  · simp (config := { maxSteps := 10000000 }) only [EV1, EV2, EV3, EV4, EV5, EV6, addT, istep, pickR, putD, bin1R, un1R, slcR, bnd, capsOf, fillP, V.plain, V.cells, V.known, C.v, blk, setL, setH, eqS, eq1, cmpS, cmp1, isNil, popTo, killT, setT, leT, V.below, S.below, R.below, V.val, C.val, S.val, R.val, R.takes, vals, shows, unnamed, V.kill, V.names, C.names, S.names, R.names, List.set, List.replicate, ↓q_cond_t, ↓q_cond_f, if_true, if_false, reduceCtorEq, rvals, rvC, result, C.known, V.noL, C.noL, S.noL, R.noL, Option.map, true_and, and_true, ge_iff_le, gt_iff_lt, implies_true, q_ite_t, q_ite_f, beq_iff_eq, bne_iff_ne, q_ne, Nat.reduceAdd, Nat.reducePow, Int.reducePow, Nat.reduceMul, Nat.reduceSub, Nat.reduceLeDiff, Nat.reduceLT, Nat.reduceEqDiff, Int.reduceNeg, Int.reduceLT, Int.reduceLE, Int.reduceEq, Int.reduceNe, Int.reduceAdd, Int.reduceSub, Int.reduceMul, Int.reduceToNat, Int.reduceBEq, Int.reduceBNe, Int.natCast_zero, slT]
  · rintro X ⟨i, a, M, c⟩ ⟨hi, ha, hM, hia, hMc, hpb, hpv⟩ IH
    simp only at hi ha hM hia hMc hpb hpv ⊢
    rcases Nat.lt_or_ge i n with hlt | hge
    · have I := idx hlt hn64
      have hiL : i < L.length := by omega
      obtain ⟨b, hb⟩ : ∃ b, b = nth 0 L i := ⟨_, rfl⟩
      have E : B.cells[i]? = some (.i .i64 b) := by
        have := arr_get0 Ic_len hiL (by omega)
        rw [Nat.mul_one] at this
        rw [hB, this, hb, nth_eq hiL]; rfl
      have hd : F.drop i = b :: F.drop (i + 1) := by
        rw [List.drop_eq_getElem_cons (by omega), hb, nth_eq hiL]
        congr 1
        subst hF; simp
      rw [hd] at hpb hpv
      simp only [unpackB, unpackV] at hpb hpv
      cases hf : fieldB (a : Int) b with
      | true =>
        obtain ⟨a', m, e1, e2, h1, h2, h3⟩ := fieldB_nat hf
        have : a' = a := by omega
        subst this
        have hwr : IntKind.i64.wrap ((a' : Int) + b) = ((a' + m : Nat) : Int) := by rw [wrap64] <;> omega
        have hpb' : unpackB w F 0 = unpackB w (F.drop (i + 1)) ((a' + m : Nat) : Int) := by rw [hpb, hf, Bool.true_and, e2]; rfl
        cases M with
        | nil =>
          have hkl : k < h.length := (List.getElem?_eq_some_iff.1 hk).1
          simp only [slT, lsT]
          refine run_sound (Tab.ok_Γ _) 200 _ _ _ _ ?_
          simp (config := { maxSteps := 10000000 }) only [EV1, EV2, EV3, EV4, EV5, EV6, addT, istep, pickR, putD, bin1R, un1R, slcR, bnd, capsOf, fillP, V.plain, V.cells, V.known, C.v, blk, setL, setH, eqS, eq1, cmpS, cmp1, isNil, popTo, killT, setT, leT, V.below, S.below, R.below, V.val, C.val, S.val, R.val, R.takes, vals, shows, unnamed, V.kill, V.names, C.names, S.names, R.names, List.set, List.replicate, ↓q_cond_t, ↓q_cond_f, if_true, if_false, reduceCtorEq, rvals, rvC, result, C.known, V.noL, C.noL, S.noL, R.noL, Option.map, true_and, and_true, ge_iff_le, gt_iff_lt, implies_true, q_ite_t, q_ite_f, beq_iff_eq, bne_iff_ne, q_ne, Nat.reduceAdd, Nat.reducePow, Int.reducePow, Nat.reduceMul, Nat.reduceSub, Nat.reduceLeDiff, Nat.reduceLT, Nat.reduceEqDiff, Int.reduceNeg, Int.reduceLT, Int.reduceLE, Int.reduceEq, Int.reduceNe, Int.reduceAdd, Int.reduceSub, Int.reduceMul, Int.reduceToNat, Int.reduceBEq, Int.reduceBNe, I, E, hk, hst, W2, getG, hwu, hf, hwr]
          intro c' hc'
          refine IH (i + 1, a' + m, [getV w a' b], c') _ (by simp only; omega) ⟨by simp only; omega, h3, by simp at hM ⊢; omega, by simp only; omega, by simpa using hc', hpb', ?_⟩ (Wk.shift 1 ?_ (Nat.le_refl _) ?_ ?_ hc ?_ (clean_ren hc 1))
          · rw [hpv, e2]; rfl
          · simp [lsT, arr, Uc, Blk.ren, S.ren]
          · simp (config := { maxSteps := 10000000 }) only [EV1, EV2, EV3, EV4, EV5, EV6, addT, istep, pickR, putD, bin1R, un1R, slcR, bnd, capsOf, fillP, V.plain, V.cells, V.known, C.v, blk, setL, setH, eqS, eq1, cmpS, cmp1, isNil, popTo, killT, setT, leT, V.below, S.below, R.below, V.val, C.val, S.val, R.val, R.takes, vals, shows, unnamed, V.kill, V.names, C.names, S.names, R.names, List.set, List.replicate, ↓q_cond_t, ↓q_cond_f, if_true, if_false, reduceCtorEq, rvals, rvC, result, C.known, V.noL, C.noL, S.noL, R.noL, Option.map, true_and, and_true, ge_iff_le, gt_iff_lt, implies_true, q_ite_t, q_ite_f, beq_iff_eq, bne_iff_ne, q_ne, Nat.reduceAdd, Nat.reducePow, Int.reducePow, Nat.reduceMul, Nat.reduceSub, Nat.reduceLeDiff, Nat.reduceLT, Nat.reduceEqDiff, Int.reduceNeg, Int.reduceLT, Int.reduceLE, Int.reduceEq, Int.reduceNe, Int.reduceAdd, Int.reduceSub, Int.reduceMul, Int.reduceToNat, Int.reduceBEq, Int.reduceBNe, slT, V.ren, S.ren, R.shift, Nat.add_comm]
          · simp (config := { maxSteps := 10000000 }) only [EV1, EV2, EV3, EV4, EV5, EV6, addT, istep, pickR, putD, bin1R, un1R, slcR, bnd, capsOf, fillP, V.plain, V.cells, V.known, C.v, blk, setL, setH, eqS, eq1, cmpS, cmp1, isNil, popTo, killT, setT, leT, V.below, S.below, R.below, V.val, C.val, S.val, R.val, R.takes, vals, shows, unnamed, V.kill, V.names, C.names, S.names, R.names, List.set, List.replicate, ↓q_cond_t, ↓q_cond_f, if_true, if_false, reduceCtorEq, rvals, rvC, result, C.known, V.noL, C.noL, S.noL, R.noL, Option.map, true_and, and_true, ge_iff_le, gt_iff_lt, implies_true, q_ite_t, q_ite_f, beq_iff_eq, bne_iff_ne, q_ne, Nat.reduceAdd, Nat.reducePow, Int.reducePow, Nat.reduceMul, Nat.reduceSub, Nat.reduceLeDiff, Nat.reduceLT, Nat.reduceEqDiff, Int.reduceNeg, Int.reduceLT, Int.reduceLE, Int.reduceEq, Int.reduceNe, Int.reduceAdd, Int.reduceSub, Int.reduceMul, Int.reduceToNat, Int.reduceBEq, Int.reduceBNe, slT, lsT, hkl]
          · simp (config := { maxSteps := 10000000 }) only [EV1, EV2, EV3, EV4, EV5, EV6, addT, istep, pickR, putD, bin1R, un1R, slcR, bnd, capsOf, fillP, V.plain, V.cells, V.known, C.v, blk, setL, setH, eqS, eq1, cmpS, cmp1, isNil, popTo, killT, setT, leT, V.below, S.below, R.below, V.val, C.val, S.val, R.val, R.takes, vals, shows, unnamed, V.kill, V.names, C.names, S.names, R.names, List.set, List.replicate, ↓q_cond_t, ↓q_cond_f, if_true, if_false, reduceCtorEq, rvals, rvC, result, C.known, V.noL, C.noL, S.noL, R.noL, Option.map, true_and, and_true, ge_iff_le, gt_iff_lt, implies_true, q_ite_t, q_ite_f, beq_iff_eq, bne_iff_ne, q_ne, Nat.reduceAdd, Nat.reducePow, Int.reducePow, Nat.reduceMul, Nat.reduceSub, Nat.reduceLeDiff, Nat.reduceLT, Nat.reduceEqDiff, Int.reduceNeg, Int.reduceLT, Int.reduceLE, Int.reduceEq, Int.reduceNe, Int.reduceAdd, Int.reduceSub, Int.reduceMul, Int.reduceToNat, Int.reduceBEq, Int.reduceBNe, lsT, arr, Uc, hkl, hst]
        | cons y M =>
          have hl := arr_length Uc_len (y :: M)
          have hk1 : known (arr Uc (y :: M)) = true := uc_all _ (fun _ => rfl) _
          have hk2 : ∀ k, ((arr Uc (y :: M)).all fun s => !S.names k s) = true := fun k => uc_all _ (fun _ => rfl) _
          have hMl : M.length + 1 = i := by simpa using hM
          have hroom : M.length + 1 ≤ 64 := by omega
          simp only [slT, lsT]
          refine run_sound (Tab.ok_Γ _) 200 _ _ _ _ ?_
          simp (config := { maxSteps := 10000000 }) only [EV1, EV2, EV3, EV4, EV5, EV6, addT, istep, pickR, putD, bin1R, un1R, slcR, bnd, capsOf, fillP, V.plain, V.cells, V.known, C.v, blk, setL, setH, eqS, eq1, cmpS, cmp1, isNil, popTo, killT, setT, leT, V.below, S.below, R.below, V.val, C.val, S.val, R.val, R.takes, vals, shows, unnamed, V.kill, V.names, C.names, S.names, R.names, List.set, List.replicate, ↓q_cond_t, ↓q_cond_f, if_true, if_false, reduceCtorEq, rvals, rvC, result, C.known, V.noL, C.noL, S.noL, R.noL, Option.map, true_and, and_true, ge_iff_le, gt_iff_lt, implies_true, q_ite_t, q_ite_f, beq_iff_eq, bne_iff_ne, q_ne, Nat.reduceAdd, Nat.reducePow, Int.reducePow, Nat.reduceMul, Nat.reduceSub, Nat.reduceLeDiff, Nat.reduceLT, Nat.reduceEqDiff, Int.reduceNeg, Int.reduceLT, Int.reduceLE, Int.reduceEq, Int.reduceNe, Int.reduceAdd, Int.reduceSub, Int.reduceMul, Int.reduceToNat, Int.reduceBEq, Int.reduceBNe, I, E, hk, hst, W2, getG, hwu, hf, hwr, hl, hk1, hk2]
          refine ⟨⟨by omega, ?_⟩, fun c' hc' => ?_⟩
          · exact hk2 0
          obtain ⟨M', hM'⟩ : ∃ M', M' = M ++ [getV w a' b] := ⟨_, rfl⟩
          have hM'l : M'.length = M.length + 1 := by rw [hM']; simp
          have hI : i + 1 ≤ n ∧ a' + m ≤ 64 ∧ (y :: M').length = i + 1 ∧ i + 1 ≤ a' + m ∧ (y :: M').length ≤ c' ∧ unpackB w F 0 = unpackB w (F.drop (i + 1)) ((a' + m : Nat) : Int) ∧ unpackV w F 0 = (y :: M') ++ unpackV w (F.drop (i + 1)) ((a' + m : Nat) : Int) := by
            refine ⟨by omega, h3, by simp only [List.length_cons]; omega, by omega, by simp only [List.length_cons]; omega, hpb', ?_⟩
            rw [hpv, hM', e2, Int.natCast_add, List.cons_append, List.cons_append, List.append_assoc]; rfl
          refine IH (i + 1, a' + m, y :: M', c') _ (by simp only; omega) hI ?_
          simp only [slT, lsT]
          have hc2 : arr Uc (y :: M) ++ [S.i .u64 (getV w a' b)] = arr Uc (y :: M') := by rw [hM']; simp [arr_append, arr, Uc]
          have hk3 : (arr Uc (y :: M')).all (S.below 1) = true := uc_all _ (fun _ => rfl) _
          refine Wk.keep 1 (by rw [hc2]; rfl) rfl ?_ ?_ ?_
          · simp (config := { maxSteps := 10000000 }) only [EV1, EV2, EV3, EV4, EV5, EV6, addT, istep, pickR, putD, bin1R, un1R, slcR, bnd, capsOf, fillP, V.plain, V.cells, V.known, C.v, blk, setL, setH, eqS, eq1, cmpS, cmp1, isNil, popTo, killT, setT, leT, V.below, S.below, R.below, V.val, C.val, S.val, R.val, R.takes, vals, shows, unnamed, V.kill, V.names, C.names, S.names, R.names, List.set, List.replicate, ↓q_cond_t, ↓q_cond_f, if_true, if_false, reduceCtorEq, rvals, rvC, result, C.known, V.noL, C.noL, S.noL, R.noL, Option.map, true_and, and_true, ge_iff_le, gt_iff_lt, implies_true, q_ite_t, q_ite_f, beq_iff_eq, bne_iff_ne, q_ne, Nat.reduceAdd, Nat.reducePow, Int.reducePow, Nat.reduceMul, Nat.reduceSub, Nat.reduceLeDiff, Nat.reduceLT, Nat.reduceEqDiff, Int.reduceNeg, Int.reduceLT, Int.reduceLE, Int.reduceEq, Int.reduceNe, Int.reduceAdd, Int.reduceSub, Int.reduceMul, Int.reduceToNat, Int.reduceBEq, Int.reduceBNe, hM'l]
            simp
          · simp (config := { maxSteps := 10000000 }) only [EV1, EV2, EV3, EV4, EV5, EV6, addT, istep, pickR, putD, bin1R, un1R, slcR, bnd, capsOf, fillP, V.plain, V.cells, V.known, C.v, blk, setL, setH, eqS, eq1, cmpS, cmp1, isNil, popTo, killT, setT, leT, V.below, S.below, R.below, V.val, C.val, S.val, R.val, R.takes, vals, shows, unnamed, V.kill, V.names, C.names, S.names, R.names, List.set, List.replicate, ↓q_cond_t, ↓q_cond_f, if_true, if_false, reduceCtorEq, rvals, rvC, result, C.known, V.noL, C.noL, S.noL, R.noL, Option.map, true_and, and_true, ge_iff_le, gt_iff_lt, implies_true, q_ite_t, q_ite_f, beq_iff_eq, bne_iff_ne, q_ne, Nat.reduceAdd, Nat.reducePow, Int.reducePow, Nat.reduceMul, Nat.reduceSub, Nat.reduceLeDiff, Nat.reduceLT, Nat.reduceEqDiff, Int.reduceNeg, Int.reduceLT, Int.reduceLE, Int.reduceEq, Int.reduceNe, Int.reduceAdd, Int.reduceSub, Int.reduceMul, Int.reduceToNat, Int.reduceBEq, Int.reduceBNe]
          · simp only [List.all_cons, List.all_nil, List.length_cons, List.length_nil, Bool.and_true]
            exact hk3
      | false =>
        cases M with
        | nil =>
          simp only [slT, lsT]
          refine run_sound (Tab.ok_Γ _) 200 _ _ _ _ ?_
          simp (config := { maxSteps := 10000000 }) only [EV1, EV2, EV3, EV4, EV5, EV6, addT, istep, pickR, putD, bin1R, un1R, slcR, bnd, capsOf, fillP, V.plain, V.cells, V.known, C.v, blk, setL, setH, eqS, eq1, cmpS, cmp1, isNil, popTo, killT, setT, leT, V.below, S.below, R.below, V.val, C.val, S.val, R.val, R.takes, vals, shows, unnamed, V.kill, V.names, C.names, S.names, R.names, List.set, List.replicate, ↓q_cond_t, ↓q_cond_f, if_true, if_false, reduceCtorEq, rvals, rvC, result, C.known, V.noL, C.noL, S.noL, R.noL, Option.map, true_and, and_true, ge_iff_le, gt_iff_lt, implies_true, q_ite_t, q_ite_f, beq_iff_eq, bne_iff_ne, q_ne, Nat.reduceAdd, Nat.reducePow, Int.reducePow, Nat.reduceMul, Nat.reduceSub, Nat.reduceLeDiff, Nat.reduceLT, Nat.reduceEqDiff, Int.reduceNeg, Int.reduceLT, Int.reduceLE, Int.reduceEq, Int.reduceNe, Int.reduceAdd, Int.reduceSub, Int.reduceMul, Int.reduceToNat, Int.reduceBEq, Int.reduceBNe, I, E, hk, hst, W2, getG, hwu, hf]
          rw [hf, Bool.false_and] at hpb
          exact hS.2 hpb
        | cons y M =>
          simp only [slT, lsT]
          refine run_sound (Tab.ok_Γ _) 200 _ _ _ _ ?_
          simp (config := { maxSteps := 10000000 }) only [EV1, EV2, EV3, EV4, EV5, EV6, addT, istep, pickR, putD, bin1R, un1R, slcR, bnd, capsOf, fillP, V.plain, V.cells, V.known, C.v, blk, setL, setH, eqS, eq1, cmpS, cmp1, isNil, popTo, killT, setT, leT, V.below, S.below, R.below, V.val, C.val, S.val, R.val, R.takes, vals, shows, unnamed, V.kill, V.names, C.names, S.names, R.names, List.set, List.replicate, ↓q_cond_t, ↓q_cond_f, if_true, if_false, reduceCtorEq, rvals, rvC, result, C.known, V.noL, C.noL, S.noL, R.noL, Option.map, true_and, and_true, ge_iff_le, gt_iff_lt, implies_true, q_ite_t, q_ite_f, beq_iff_eq, bne_iff_ne, q_ne, Nat.reduceAdd, Nat.reducePow, Int.reducePow, Nat.reduceMul, Nat.reduceSub, Nat.reduceLeDiff, Nat.reduceLT, Nat.reduceEqDiff, Int.reduceNeg, Int.reduceLT, Int.reduceLE, Int.reduceEq, Int.reduceNe, Int.reduceAdd, Int.reduceSub, Int.reduceMul, Int.reduceToNat, Int.reduceBEq, Int.reduceBNe, I, E, hk, hst, W2, getG, hwu, hf]
          rw [hf, Bool.false_and] at hpb
          exact hS.2 hpb
    · have : i = n := by omega
      subst this
      have hdn : F.drop i = [] := List.drop_eq_nil_of_le (by omega)
      rw [hdn] at hpb hpv
      simp only [unpackB, unpackV, List.append_nil] at hpb hpv
      have m2 : min a IntKind.u64.bits = a := by show min a 64 = _; omega
      have a0 : (0 : Int) ≤ a := by omega
      cases M with
      | nil =>
        simp only [slT, lsT]
        refine run_sound (Tab.ok_Γ _) 100 _ _ _ _ ?_
        simp (config := { maxSteps := 10000000 }) only [EV1, EV2, EV3, EV4, EV5, EV6, addT, istep, pickR, putD, bin1R, un1R, slcR, bnd, capsOf, fillP, V.plain, V.cells, V.known, C.v, blk, setL, setH, eqS, eq1, cmpS, cmp1, isNil, popTo, killT, setT, leT, V.below, S.below, R.below, V.val, C.val, S.val, R.val, R.takes, vals, shows, unnamed, V.kill, V.names, C.names, S.names, R.names, List.set, List.replicate, ↓q_cond_t, ↓q_cond_f, if_true, if_false, reduceCtorEq, rvals, rvC, result, C.known, V.noL, C.noL, S.noL, R.noL, Option.map, true_and, and_true, ge_iff_le, gt_iff_lt, implies_true, q_ite_t, q_ite_f, beq_iff_eq, bne_iff_ne, q_ne, Nat.reduceAdd, Nat.reducePow, Int.reducePow, Nat.reduceMul, Nat.reduceSub, Nat.reduceLeDiff, Nat.reduceLT, Nat.reduceEqDiff, Int.reduceNeg, Int.reduceLT, Int.reduceLE, Int.reduceEq, Int.reduceNe, Int.reduceAdd, Int.reduceSub, Int.reduceMul, Int.reduceToNat, Int.reduceBEq, Int.reduceBNe, Int.lt_irrefl, m2, a0]
        rw [hpb, hpv, div_dec] at hS
        simp only [decide_eq_true_eq, decide_eq_false_iff_not] at hS
        exact ⟨hS.2, hS.1⟩
      | cons y M =>
        simp only [slT, lsT]
        refine run_sound (Tab.ok_Γ _) 100 _ _ _ _ ?_
        simp (config := { maxSteps := 10000000 }) only [EV1, EV2, EV3, EV4, EV5, EV6, addT, istep, pickR, putD, bin1R, un1R, slcR, bnd, capsOf, fillP, V.plain, V.cells, V.known, C.v, blk, setL, setH, eqS, eq1, cmpS, cmp1, isNil, popTo, killT, setT, leT, V.below, S.below, R.below, V.val, C.val, S.val, R.val, R.takes, vals, shows, unnamed, V.kill, V.names, C.names, S.names, R.names, List.set, List.replicate, ↓q_cond_t, ↓q_cond_f, if_true, if_false, reduceCtorEq, rvals, rvC, result, C.known, V.noL, C.noL, S.noL, R.noL, Option.map, true_and, and_true, ge_iff_le, gt_iff_lt, implies_true, q_ite_t, q_ite_f, beq_iff_eq, bne_iff_ne, q_ne, Nat.reduceAdd, Nat.reducePow, Int.reducePow, Nat.reduceMul, Nat.reduceSub, Nat.reduceLeDiff, Nat.reduceLT, Nat.reduceEqDiff, Int.reduceNeg, Int.reduceLT, Int.reduceLE, Int.reduceEq, Int.reduceNe, Int.reduceAdd, Int.reduceSub, Int.reduceMul, Int.reduceToNat, Int.reduceBEq, Int.reduceBNe, Int.lt_irrefl, m2, a0]
        rw [hpb, hpv, div_dec] at hS
        simp only [decide_eq_true_eq, decide_eq_false_iff_not] at hS
        exact ⟨hS.2, fun e => words_leave (by simpa using hMc) (hS.1 e)⟩

end Go.Proofs.Ythegocjfnjfkdaa

/- Package word: Unpack's law. -/
namespace Go.Proofs.Ythegocjfnjfkdaa
open Go.D
set_option linter.all false
set_option maxRecDepth 100000
set_option maxHeartbeats 4000000

theorem unpack_snd : Snd Try.prog 60 (FSpec.of unpackG) := snd_run W2_snd mixed Try.func60 dc60 100 fun args h K hc hS => by
  unfold unpackG at hS
  split at hS
  · rename_i w h
    obtain ⟨hw, hS⟩ := hS
    obtain ⟨w, rfl, hw'⟩ := hw.nat
    simp only [spec_br, spec_ok, decide_eq_true_eq, decide_eq_false_iff_not] at hS
    simp (config := { maxSteps := 10000000 }) only [EV1, EV2, EV3, EV4, EV5, EV6, addT, istep, pickR, putD, bin1R, un1R, slcR, bnd, capsOf, fillP, V.plain, V.cells, V.known, C.v, blk, setL, setH, eqS, eq1, cmpS, cmp1, isNil, popTo, killT, setT, leT, V.below, S.below, R.below, V.val, C.val, S.val, R.val, R.takes, vals, shows, unnamed, V.kill, V.names, C.names, S.names, R.names, List.set, List.replicate, ↓q_cond_t, ↓q_cond_f, if_true, if_false, reduceCtorEq, rvals, rvC, result, C.known, V.noL, C.noL, S.noL, R.noL, Option.map, true_and, and_true, ge_iff_le, gt_iff_lt, implies_true, q_ite_t, q_ite_f, beq_iff_eq, bne_iff_ne, q_ne, Nat.reduceAdd, Nat.reducePow, Int.reducePow, Nat.reduceMul, Nat.reduceSub, Nat.reduceLeDiff, Nat.reduceLT, Nat.reduceEqDiff, Int.reduceNeg, Int.reduceLT, Int.reduceLE, Int.reduceEq, Int.reduceNe, Int.reduceAdd, Int.reduceSub, Int.reduceMul, Int.reduceToNat, Int.reduceBEq, Int.reduceBNe, df60]
    refine loop_rule (α := Unit) [] (fun _ => []) (fun _ => []) (fun _ => h) (fun _ => True) (fun _ => 0) () trivial .refl ?_
    rintro X _ _ _
    refine run_sound (Tab.ok_Γ _) 100 _ _ _ _ ?_
    simp (config := { maxSteps := 10000000 }) only [EV1, EV2, EV3, EV4, EV5, EV6, addT, istep, pickR, putD, bin1R, un1R, slcR, bnd, capsOf, fillP, V.plain, V.cells, V.known, C.v, blk, setL, setH, eqS, eq1, cmpS, cmp1, isNil, popTo, killT, setT, leT, V.below, S.below, R.below, V.val, C.val, S.val, R.val, R.takes, vals, shows, unnamed, V.kill, V.names, C.names, S.names, R.names, List.set, List.replicate, ↓q_cond_t, ↓q_cond_f, if_true, if_false, reduceCtorEq, rvals, rvC, result, C.known, V.noL, C.noL, S.noL, R.noL, Option.map, true_and, and_true, ge_iff_le, gt_iff_lt, implies_true, q_ite_t, q_ite_f, beq_iff_eq, bne_iff_ne, q_ne, Nat.reduceAdd, Nat.reducePow, Int.reducePow, Nat.reduceMul, Nat.reduceSub, Nat.reduceLeDiff, Nat.reduceLT, Nat.reduceEqDiff, Int.reduceNeg, Int.reduceLT, Int.reduceLE, Int.reduceEq, Int.reduceNe, Int.reduceAdd, Int.reduceSub, Int.reduceMul, Int.reduceToNat, Int.reduceBEq, Int.reduceBNe, Int.lt_irrefl]
    have m2 : min 0 IntKind.u64.bits = 0 := rfl
    simp only [m2, Int.reducePow, Int.ediv_one]
    exact ⟨hS.2, hS.1⟩
  · rename_i w k n c h
    split at hS
    · rename_i B hk
      obtain ⟨⟨hw, hst, hB, hn, hn64⟩, hS⟩ := hS
      obtain ⟨w, rfl, hw'⟩ := hw.nat
      exact unpack_loop hw' hk hst hB hn hn64 hc hS
    · exact hS.elim
  · exact hS.elim

end Go.Proofs.Ythegocjfnjfkdaa

/- Package caps: Decode. -/
namespace Go.Proofs.Ythegocjfnjfkdaa
open Go.D
set_option linter.all false
set_option maxRecDepth 100000
set_option maxHeartbeats 4000000

theorem up_B (w : Nat) : unpackB (w : Int) [4, 16, 5, 3, 4, 6, 5] 0 = decide ((w : Int) / 8796093022208 = 0) := by
  simp only [unpackB, fieldB, Int.reduceAdd, Int.reduceSub, Int.reduceLE, Int.reduceToNat, Nat.reducePow, true_and, and_true, decide_true, Bool.true_and, Int.toNat_natCast]
  rw [Bool.eq_iff_iff]
  simp only [decide_eq_true_eq, and_self, true_and]
  omega
theorem up_V (w : Nat) : unpackV (w : Int) [4, 16, 5, 3, 4, 6, 5] 0 = [(w : Int) % 16, (w : Int) / 16 % 65536, (w : Int) / 1048576 % 32, (w : Int) / 33554432 % 8, (w : Int) / 268435456 % 16, (w : Int) / 4294967296 % 64, (w : Int) / 274877906944 % 32] := by
  simp only [unpackV, getV, Int.reduceAdd, Int.reduceToNat, Nat.reducePow, Int.toNat_natCast, Int.natCast_ediv, Int.natCast_emod, Nat.div_one]
  rfl

theorem nlt (n k : Nat) : (n + k < n) = False := by simp
def decC (w0 w1 : Int) : Cap := ⟨w0 % 16, w0 / 16 % 65536, w0 / 1048576 % 32, if w0 % 16 = 2 ∨ w0 % 16 = 4 ∨ w0 % 16 = 5 ∨ w0 % 16 = 6 ∨ w0 % 16 = 8 then 0 else w1,
  if w0 % 16 = 2 then w1 else 0, w0 / 274877906944 % 32, if w0 % 16 = 4 ∨ w0 % 16 = 5 then w1 else 0, w0 / 33554432 % 8, w0 / 4294967296 % 64, if w0 % 16 = 6 ∨ w0 % 16 = 8 then w1 else 0, w0 / 268435456 % 16⟩
def decB (w0 w1 : Int) : Bool := decide (w0 / 8796093022208 = 0) && (decide (w1 < 4294967296) && rightB (decC w0 w1))
def capZ : Cap := ⟨0, 0, 0, 0, 0, 0, 0, 0, 0, 0, 0⟩
def decG : List V → List Blk → Res
  | [.s (.i .u64 w0), .s (.i .u64 w1)], h => .ob (u64 w0 ∧ u64 w1) (.br (decB w0 w1) (.ok (.tup [.agg (decC w0 w1).cl, .s (.i .i64 0)]) [] h) (.ok (.tup [.agg capZ.cl, .s (.i .i64 60)]) [] h))
  | _, _ => .bad

def TD : Tab := addT 60 unpackG (addT 15 rightG noT)
theorem TD_snd : TD.Snd Try.prog := addT_snd ok60 unpack_snd (addT_snd ok15 right_snd (noT_snd _))
theorem dec_snd : Snd Try.prog 19 (FSpec.of decG) := snd_run TD_snd mixed Try.func19 dc19 300 fun args h K hc hS => by
  unfold decG at hS
  split at hS
  · rename_i w0 w1
    obtain ⟨⟨hw0, hw1⟩, hS⟩ := hS
    obtain ⟨w0, rfl, hw0'⟩ := hw0.nat
    simp only [spec_br, spec_ok] at hS
    have eB := up_B w0
    have eV := up_V w0
    by_cases hA : (w0 : Int) / 8796093022208 = 0
    · by_cases hB : w1 < 4294967296
      · have hB' : ¬ 4294967296 ≤ w1 := by omega
        have i0 : IntKind.i64.wrap ((w0 : Int) % 16) = (w0 : Int) % 16 := wrap64 (by omega) (by omega)
        have i1 : IntKind.i64.wrap ((w0 : Int) / 16 % 65536) = (w0 : Int) / 16 % 65536 := wrap64 (by omega) (by omega)
        have i2 : IntKind.i64.wrap ((w0 : Int) / 1048576 % 32) = (w0 : Int) / 1048576 % 32 := wrap64 (by omega) (by omega)
        have i3 : IntKind.i64.wrap ((w0 : Int) / 33554432 % 8) = (w0 : Int) / 33554432 % 8 := wrap64 (by omega) (by omega)
        have i4 : IntKind.i64.wrap ((w0 : Int) / 268435456 % 16) = (w0 : Int) / 268435456 % 16 := wrap64 (by omega) (by omega)
        have i5 : IntKind.i64.wrap ((w0 : Int) / 4294967296 % 64) = (w0 : Int) / 4294967296 % 64 := wrap64 (by omega) (by omega)
        have i6 : IntKind.i64.wrap ((w0 : Int) / 274877906944 % 32) = (w0 : Int) / 274877906944 % 32 := wrap64 (by omega) (by omega)
        have i7 : IntKind.i64.wrap w1 = w1 := wrap64 (by have := hw1.1; omega) (by omega)
        simp only [decB, hA, hB, decide_true, Bool.true_and, decC] at hS
        have kk : (w0 : Int) % 16 = 2 ∨ (w0 : Int) % 16 = 4 ∨ (w0 : Int) % 16 = 5 ∨ (w0 : Int) % 16 = 6 ∨ (w0 : Int) % 16 = 8 ∨ (¬ (w0 : Int) % 16 = 2 ∧ ¬ (w0 : Int) % 16 = 4 ∧ ¬ (w0 : Int) % 16 = 5 ∧ ¬ (w0 : Int) % 16 = 6 ∧ ¬ (w0 : Int) % 16 = 8) := by omega
        generalize (w0 : Int) % 16 = t at *
        generalize (w0 : Int) / 16 % 65536 = f1 at *
        generalize (w0 : Int) / 1048576 % 32 = f2 at *
        generalize (w0 : Int) / 33554432 % 8 = f3 at *
        generalize (w0 : Int) / 268435456 % 16 = f4 at *
        generalize (w0 : Int) / 4294967296 % 64 = f5 at *
        generalize (w0 : Int) / 274877906944 % 32 = f6 at *
        rcases kk with ht | ht | ht | ht | ht | ⟨k2, k4, k5, k6, k8⟩
        case inr.inr.inr.inr.inr =>
          simp only [k2, k4, k5, k6, k8, or_self, if_false] at hS
          simp (config := { maxSteps := 10000000 }) only [EV1, EV2, EV3, EV4, EV5, EV6, addT, istep, pickR, putD, bin1R, un1R, slcR, bnd, capsOf, fillP, V.plain, V.cells, V.known, C.v, blk, setL, setH, eqS, eq1, cmpS, cmp1, isNil, popTo, killT, setT, leT, V.below, S.below, R.below, V.val, C.val, S.val, R.val, R.takes, vals, shows, unnamed, V.kill, V.names, C.names, S.names, R.names, List.set, List.replicate, ↓q_cond_t, ↓q_cond_f, if_true, if_false, reduceCtorEq, rvals, rvC, result, C.known, V.noL, C.noL, S.noL, R.noL, Option.map, true_and, and_true, ge_iff_le, gt_iff_lt, implies_true, q_ite_t, q_ite_f, beq_iff_eq, bne_iff_ne, q_ne, Nat.reduceAdd, Nat.reducePow, Int.reducePow, Nat.reduceMul, Nat.reduceSub, Nat.reduceLeDiff, Nat.reduceLT, Nat.reduceEqDiff, Int.reduceNeg, Int.reduceLT, Int.reduceLE, Int.reduceEq, Int.reduceNe, Int.reduceAdd, Int.reduceSub, Int.reduceMul, Int.reduceToNat, Int.reduceBEq, Int.reduceBNe, df19, TD, unpackG, wordsR, pairV, rightG, capF, R.lend, R.unlend, S.ren, C.ren, V.ren, Blk.ren, take_app, drop_app, Nat.not_lt_zero, Nat.lt_irrefl, Nat.add_sub_cancel_left, Nat.not_lt, Nat.le_add_right, decI, arr, Ic, Uc, List.take, eB, eV, hw0, hA, hB', i0, i1, i2, i3, i4, i5, i6, i7, put, fillP, nlt, k2, k4, k5, k6, k8]
          exact fun c _ => ⟨hc, fun n => hS.2 (by simpa using n), hS.1⟩
        all_goals
          subst ht
          simp only [Int.reduceEq, or_self, or_true, true_or, or_false, false_or, if_true, if_false] at hS
          simp (config := { maxSteps := 10000000 }) only [EV1, EV2, EV3, EV4, EV5, EV6, addT, istep, pickR, putD, bin1R, un1R, slcR, bnd, capsOf, fillP, V.plain, V.cells, V.known, C.v, blk, setL, setH, eqS, eq1, cmpS, cmp1, isNil, popTo, killT, setT, leT, V.below, S.below, R.below, V.val, C.val, S.val, R.val, R.takes, vals, shows, unnamed, V.kill, V.names, C.names, S.names, R.names, List.set, List.replicate, ↓q_cond_t, ↓q_cond_f, if_true, if_false, reduceCtorEq, rvals, rvC, result, C.known, V.noL, C.noL, S.noL, R.noL, Option.map, true_and, and_true, ge_iff_le, gt_iff_lt, implies_true, q_ite_t, q_ite_f, beq_iff_eq, bne_iff_ne, q_ne, Nat.reduceAdd, Nat.reducePow, Int.reducePow, Nat.reduceMul, Nat.reduceSub, Nat.reduceLeDiff, Nat.reduceLT, Nat.reduceEqDiff, Int.reduceNeg, Int.reduceLT, Int.reduceLE, Int.reduceEq, Int.reduceNe, Int.reduceAdd, Int.reduceSub, Int.reduceMul, Int.reduceToNat, Int.reduceBEq, Int.reduceBNe, df19, TD, unpackG, wordsR, pairV, rightG, capF, R.lend, R.unlend, S.ren, C.ren, V.ren, Blk.ren, take_app, drop_app, Nat.not_lt_zero, Nat.lt_irrefl, Nat.add_sub_cancel_left, Nat.not_lt, Nat.le_add_right, decI, arr, Ic, Uc, List.take, eB, eV, hw0, hA, hB', i0, i1, i2, i3, i4, i5, i6, i7, put, fillP, nlt]
          exact fun c _ => ⟨hc, fun n => hS.2 (by simpa using n), hS.1⟩
      · have hB' : 4294967296 ≤ w1 := by omega
        simp only [decB, hB, decide_false, Bool.false_and, Bool.and_false] at hS
        simp (config := { maxSteps := 10000000 }) only [EV1, EV2, EV3, EV4, EV5, EV6, addT, istep, pickR, putD, bin1R, un1R, slcR, bnd, capsOf, fillP, V.plain, V.cells, V.known, C.v, blk, setL, setH, eqS, eq1, cmpS, cmp1, isNil, popTo, killT, setT, leT, V.below, S.below, R.below, V.val, C.val, S.val, R.val, R.takes, vals, shows, unnamed, V.kill, V.names, C.names, S.names, R.names, List.set, List.replicate, ↓q_cond_t, ↓q_cond_f, if_true, if_false, reduceCtorEq, rvals, rvC, result, C.known, V.noL, C.noL, S.noL, R.noL, Option.map, true_and, and_true, ge_iff_le, gt_iff_lt, implies_true, q_ite_t, q_ite_f, beq_iff_eq, bne_iff_ne, q_ne, Nat.reduceAdd, Nat.reducePow, Int.reducePow, Nat.reduceMul, Nat.reduceSub, Nat.reduceLeDiff, Nat.reduceLT, Nat.reduceEqDiff, Int.reduceNeg, Int.reduceLT, Int.reduceLE, Int.reduceEq, Int.reduceNe, Int.reduceAdd, Int.reduceSub, Int.reduceMul, Int.reduceToNat, Int.reduceBEq, Int.reduceBNe, df19, TD, unpackG, wordsR, pairV, rightG, capF, R.lend, R.unlend, S.ren, C.ren, V.ren, Blk.ren, take_app, drop_app, Nat.not_lt_zero, Nat.lt_irrefl, Nat.add_sub_cancel_left, Nat.not_lt, Nat.le_add_right, decI, arr, Ic, Uc, List.take, eB, eV, hw0, hA, hB', put, fillP, nlt]
        exact fun c _ => ⟨hc, hS.2 trivial⟩
    · simp only [decB, hA, decide_false, Bool.false_and] at hS
      simp (config := { maxSteps := 10000000 }) only [EV1, EV2, EV3, EV4, EV5, EV6, addT, istep, pickR, putD, bin1R, un1R, slcR, bnd, capsOf, fillP, V.plain, V.cells, V.known, C.v, blk, setL, setH, eqS, eq1, cmpS, cmp1, isNil, popTo, killT, setT, leT, V.below, S.below, R.below, V.val, C.val, S.val, R.val, R.takes, vals, shows, unnamed, V.kill, V.names, C.names, S.names, R.names, List.set, List.replicate, ↓q_cond_t, ↓q_cond_f, if_true, if_false, reduceCtorEq, rvals, rvC, result, C.known, V.noL, C.noL, S.noL, R.noL, Option.map, true_and, and_true, ge_iff_le, gt_iff_lt, implies_true, q_ite_t, q_ite_f, beq_iff_eq, bne_iff_ne, q_ne, Nat.reduceAdd, Nat.reducePow, Int.reducePow, Nat.reduceMul, Nat.reduceSub, Nat.reduceLeDiff, Nat.reduceLT, Nat.reduceEqDiff, Int.reduceNeg, Int.reduceLT, Int.reduceLE, Int.reduceEq, Int.reduceNe, Int.reduceAdd, Int.reduceSub, Int.reduceMul, Int.reduceToNat, Int.reduceBEq, Int.reduceBNe, df19, TD, unpackG, wordsR, rightG, capF, R.lend, R.unlend, S.ren, C.ren, V.ren, Blk.ren, take_app, drop_app, Nat.not_lt_zero, Nat.lt_irrefl, Nat.add_sub_cancel_left, Nat.not_lt, Nat.le_add_right, decI, arr, Ic, Uc, List.take, eB, eV, hw0, hA, put, fillP, nlt]
      exact ⟨hc, hS.2 trivial⟩
  · exact hS.elim
end Go.Proofs.Ythegocjfnjfkdaa

/- The document's Decode. -/
namespace Go.Proofs.Ythegocjfnjfkdaa
open Go.D
set_option linter.all false
set_option maxRecDepth 100000
set_option maxHeartbeats 4000000

theorem mark_zero {c : Cap} (h : rightB c = true) (h1 : ¬ c.ty = 1) (h2 : ¬ c.ty = 10) : c.mark = 0 := by
  obtain ⟨t, o, b, d, e, g, i, j, k, l, m⟩ := c
  simp only [rightB] at h h1 h2 ⊢
  rcases kinds t with rfl | rfl | rfl | rfl | rfl | rfl | rfl | rfl | rfl | rfl | rfl | rfl | rfl | rfl | ⟨k0, k1, k2, k3, k4, k5, k6, k7, k8, k9, k10, k11, k12, k13, ho⟩
  all_goals try simp only [k0, k1, k2, k3, k4, k5, k6, k7, k8, k9, k10, k11, k12, k13, if_false] at h
  all_goals try simp only [Int.reduceEq, if_true, if_false, ite_t, ite_f, Bool.and_eq_true, inV_iff, mapV, Bool.or_eq_true, decide_eq_true_eq, beq_iff_eq, not_or, Classical.not_not, nOk_iff, and_true] at h
  case inr.inr.inr.inr.inr.inr.inr.inr.inr.inr.inr.inr.inr.inr => exact absurd h (by decide)
  case inr.inl => exact absurd rfl h1
  case inr.inr.inr.inr.inr.inr.inr.inr.inr.inr.inl => exact absurd rfl h2
  all_goals omega

theorem w0_back {w : Nat} : ((w : Int) % 16 + 16 * ((w : Int) / 16 % 65536) + 1048576 * ((w : Int) / 1048576 % 32) + 33554432 * ((w : Int) / 33554432 % 8) + 268435456 * ((w : Int) / 268435456 % 16) + 4294967296 * ((w : Int) / 4294967296 % 64) + 274877906944 * ((w : Int) / 274877906944 % 32) = w) ↔ (w : Int) / 8796093022208 = 0 := by
  omega

def TG : Tab := addT 18 encG noT
theorem TG_snd : TG.Snd Try.prog := addT_snd ok18 renc_snd (noT_snd _)
theorem rdec_snd : Snd Try.prog 20 (FSpec.of decG) := snd_run TG_snd mixed Try.func20 dc20 300 fun args h K hc hS => by
  unfold decG at hS
  split at hS
  · rename_i w0 w1
    obtain ⟨⟨hw0, hw1⟩, hS⟩ := hS
    obtain ⟨w0, rfl, hw0'⟩ := hw0.nat
    simp only [spec_br, spec_ok] at hS
    by_cases hB : w1 < 4294967296
    · have hB' : ¬ 4294967296 ≤ w1 := by omega
      have hb := w0_back (w := w0)
      have r0 : (w0 : Int).tmod 16 = (w0 : Int) % 16 := Int.tmod_eq_emod_of_nonneg (by omega)
      have r1 : ((w0 : Int) / 16).tmod 65536 = (w0 : Int) / 16 % 65536 := Int.tmod_eq_emod_of_nonneg (by omega)
      have r2 : ((w0 : Int) / 1048576).tmod 32 = (w0 : Int) / 1048576 % 32 := Int.tmod_eq_emod_of_nonneg (by omega)
      have r3 : ((w0 : Int) / 33554432).tmod 8 = (w0 : Int) / 33554432 % 8 := Int.tmod_eq_emod_of_nonneg (by omega)
      have r4 : ((w0 : Int) / 268435456).tmod 16 = (w0 : Int) / 268435456 % 16 := Int.tmod_eq_emod_of_nonneg (by omega)
      have r5 : ((w0 : Int) / 4294967296).tmod 64 = (w0 : Int) / 4294967296 % 64 := Int.tmod_eq_emod_of_nonneg (by omega)
      have r6 : ((w0 : Int) / 274877906944).tmod 32 = (w0 : Int) / 274877906944 % 32 := Int.tmod_eq_emod_of_nonneg (by omega)
      have i0 : IntKind.i64.wrap ((w0 : Int) % 16) = (w0 : Int) % 16 := wrap64 (by omega) (by omega)
      have i1 : IntKind.i64.wrap ((w0 : Int) / 16 % 65536) = (w0 : Int) / 16 % 65536 := wrap64 (by omega) (by omega)
      have i2 : IntKind.i64.wrap ((w0 : Int) / 1048576 % 32) = (w0 : Int) / 1048576 % 32 := wrap64 (by omega) (by omega)
      have i3 : IntKind.i64.wrap ((w0 : Int) / 33554432 % 8) = (w0 : Int) / 33554432 % 8 := wrap64 (by omega) (by omega)
      have i4 : IntKind.i64.wrap ((w0 : Int) / 268435456 % 16) = (w0 : Int) / 268435456 % 16 := wrap64 (by omega) (by omega)
      have i5 : IntKind.i64.wrap ((w0 : Int) / 4294967296 % 64) = (w0 : Int) / 4294967296 % 64 := wrap64 (by omega) (by omega)
      have i6 : IntKind.i64.wrap ((w0 : Int) / 274877906944 % 32) = (w0 : Int) / 274877906944 % 32 := wrap64 (by omega) (by omega)
      have i7 : IntKind.i64.wrap w1 = w1 := wrap64 (by have := hw1.1; omega) (by omega)
      have m4 : min 4 IntKind.u64.bits = 4 := rfl
      have m20 : min 20 IntKind.u64.bits = 20 := rfl
      have m25 : min 25 IntKind.u64.bits = 25 := rfl
      have m28 : min 28 IntKind.u64.bits = 28 := rfl
      have m32 : min 32 IntKind.u64.bits = 32 := rfl
      have m38 : min 38 IntKind.u64.bits = 38 := rfl
      simp only [decB, hB, decide_true, Bool.true_and, decC, Bool.and_eq_true, Bool.and_eq_false_iff, decide_eq_true_eq, decide_eq_false_iff_not] at hS
      rw [← hb] at hS
      have kk : (w0 : Int) % 16 = 1 ∨ (w0 : Int) % 16 = 10 ∨ (w0 : Int) % 16 = 2 ∨ (w0 : Int) % 16 = 4 ∨ (w0 : Int) % 16 = 5 ∨ (w0 : Int) % 16 = 6 ∨ (w0 : Int) % 16 = 8 ∨ (¬ (w0 : Int) % 16 = 1 ∧ ¬ (w0 : Int) % 16 = 10 ∧ ¬ (w0 : Int) % 16 = 2 ∧ ¬ (w0 : Int) % 16 = 4 ∧ ¬ (w0 : Int) % 16 = 5 ∧ ¬ (w0 : Int) % 16 = 6 ∧ ¬ (w0 : Int) % 16 = 8) := by omega
      clear hb
      obtain ⟨q0, e0⟩ : ∃ q, q = (w0 : Int) % 16 := ⟨_, rfl⟩
      obtain ⟨q1, e1⟩ : ∃ q, q = (w0 : Int) / 16 % 65536 := ⟨_, rfl⟩
      obtain ⟨q2, e2⟩ : ∃ q, q = (w0 : Int) / 1048576 % 32 := ⟨_, rfl⟩
      obtain ⟨q3, e3⟩ : ∃ q, q = (w0 : Int) / 33554432 % 8 := ⟨_, rfl⟩
      obtain ⟨q4, e4⟩ : ∃ q, q = (w0 : Int) / 268435456 % 16 := ⟨_, rfl⟩
      obtain ⟨q5, e5⟩ : ∃ q, q = (w0 : Int) / 4294967296 % 64 := ⟨_, rfl⟩
      obtain ⟨q6, e6⟩ : ∃ q, q = (w0 : Int) / 274877906944 % 32 := ⟨_, rfl⟩
      rw [← e0] at r0 i0 kk
      rw [← e1] at r1 i1
      rw [← e2] at r2 i2
      rw [← e3] at r3 i3
      rw [← e4] at r4 i4
      rw [← e5] at r5 i5
      rw [← e6] at r6 i6
      rw [← e0, ← e1, ← e2, ← e3, ← e4, ← e5, ← e6] at hS
      clear e0 e1 e2 e3 e4 e5 e6
      rcases kk with rfl | rfl | rfl | rfl | rfl | rfl | rfl | ⟨k1, k10, k2, k4, k5, k6, k8⟩
      case inl =>
        simp only [Int.reduceEq, or_self, or_true, true_or, or_false, false_or, if_true, if_false] at hS
        cases hr : rightB ⟨1, q1, q2, w1, 0, q6, 0, q3, q5, 0, q4⟩ with
        | true =>
          have hn : (⟨1, q1, q2, w1, 0, q6, 0, q3, q5, 0, q4⟩ : Cap).num = w1 := by simp [Cap.num]
          simp (config := { maxSteps := 10000000 }) only [EV1, EV2, EV3, EV4, EV5, EV6, addT, istep, pickR, putD, bin1R, un1R, slcR, bnd, capsOf, fillP, V.plain, V.cells, V.known, C.v, blk, setL, setH, eqS, eq1, cmpS, cmp1, isNil, popTo, killT, setT, leT, V.below, S.below, R.below, V.val, C.val, S.val, R.val, R.takes, vals, shows, unnamed, V.kill, V.names, C.names, S.names, R.names, List.set, List.replicate, ↓q_cond_t, ↓q_cond_f, if_true, if_false, reduceCtorEq, rvals, rvC, result, C.known, V.noL, C.noL, S.noL, R.noL, Option.map, true_and, and_true, ge_iff_le, gt_iff_lt, implies_true, q_ite_t, q_ite_f, beq_iff_eq, bne_iff_ne, q_ne, Nat.reduceAdd, Nat.reducePow, Int.reducePow, Nat.reduceMul, Nat.reduceSub, Nat.reduceLeDiff, Nat.reduceLT, Nat.reduceEqDiff, Int.reduceNeg, Int.reduceLT, Int.reduceLE, Int.reduceEq, Int.reduceNe, Int.reduceAdd, Int.reduceSub, Int.reduceMul, Int.reduceToNat, Int.reduceBEq, Int.reduceBNe, df20, TG, encG, capF, hB', r0, r1, r2, r3, r4, r5, r6, i0, i1, i2, i3, i4, i5, i6, i7, m4, m20, m25, m28, m32, m38, put, fillP, hr, hn]
          exact ⟨fun n => hS.2 (.inl n), fun n => hS.1 ⟨n, hr⟩⟩
        | false =>
          simp (config := { maxSteps := 10000000 }) only [EV1, EV2, EV3, EV4, EV5, EV6, addT, istep, pickR, putD, bin1R, un1R, slcR, bnd, capsOf, fillP, V.plain, V.cells, V.known, C.v, blk, setL, setH, eqS, eq1, cmpS, cmp1, isNil, popTo, killT, setT, leT, V.below, S.below, R.below, V.val, C.val, S.val, R.val, R.takes, vals, shows, unnamed, V.kill, V.names, C.names, S.names, R.names, List.set, List.replicate, ↓q_cond_t, ↓q_cond_f, if_true, if_false, reduceCtorEq, rvals, rvC, result, C.known, V.noL, C.noL, S.noL, R.noL, Option.map, true_and, and_true, ge_iff_le, gt_iff_lt, implies_true, q_ite_t, q_ite_f, beq_iff_eq, bne_iff_ne, q_ne, Nat.reduceAdd, Nat.reducePow, Int.reducePow, Nat.reduceMul, Nat.reduceSub, Nat.reduceLeDiff, Nat.reduceLT, Nat.reduceEqDiff, Int.reduceNeg, Int.reduceLT, Int.reduceLE, Int.reduceEq, Int.reduceNe, Int.reduceAdd, Int.reduceSub, Int.reduceMul, Int.reduceToNat, Int.reduceBEq, Int.reduceBNe, df20, TG, encG, capF, hB', r0, r1, r2, r3, r4, r5, r6, i0, i1, i2, i3, i4, i5, i6, i7, m4, m20, m25, m28, m32, m38, put, fillP, hr]
          exact hS.2 (.inr hr)
      case inr.inl =>
        simp only [Int.reduceEq, or_self, or_true, true_or, or_false, false_or, if_true, if_false] at hS
        cases hr : rightB ⟨10, q1, q2, w1, 0, q6, 0, q3, q5, 0, q4⟩ with
        | true =>
          have hn : (⟨10, q1, q2, w1, 0, q6, 0, q3, q5, 0, q4⟩ : Cap).num = w1 := by simp [Cap.num]
          simp (config := { maxSteps := 10000000 }) only [EV1, EV2, EV3, EV4, EV5, EV6, addT, istep, pickR, putD, bin1R, un1R, slcR, bnd, capsOf, fillP, V.plain, V.cells, V.known, C.v, blk, setL, setH, eqS, eq1, cmpS, cmp1, isNil, popTo, killT, setT, leT, V.below, S.below, R.below, V.val, C.val, S.val, R.val, R.takes, vals, shows, unnamed, V.kill, V.names, C.names, S.names, R.names, List.set, List.replicate, ↓q_cond_t, ↓q_cond_f, if_true, if_false, reduceCtorEq, rvals, rvC, result, C.known, V.noL, C.noL, S.noL, R.noL, Option.map, true_and, and_true, ge_iff_le, gt_iff_lt, implies_true, q_ite_t, q_ite_f, beq_iff_eq, bne_iff_ne, q_ne, Nat.reduceAdd, Nat.reducePow, Int.reducePow, Nat.reduceMul, Nat.reduceSub, Nat.reduceLeDiff, Nat.reduceLT, Nat.reduceEqDiff, Int.reduceNeg, Int.reduceLT, Int.reduceLE, Int.reduceEq, Int.reduceNe, Int.reduceAdd, Int.reduceSub, Int.reduceMul, Int.reduceToNat, Int.reduceBEq, Int.reduceBNe, df20, TG, encG, capF, hB', r0, r1, r2, r3, r4, r5, r6, i0, i1, i2, i3, i4, i5, i6, i7, m4, m20, m25, m28, m32, m38, put, fillP, hr, hn]
          exact ⟨fun n => hS.2 (.inl n), fun n => hS.1 ⟨n, hr⟩⟩
        | false =>
          simp (config := { maxSteps := 10000000 }) only [EV1, EV2, EV3, EV4, EV5, EV6, addT, istep, pickR, putD, bin1R, un1R, slcR, bnd, capsOf, fillP, V.plain, V.cells, V.known, C.v, blk, setL, setH, eqS, eq1, cmpS, cmp1, isNil, popTo, killT, setT, leT, V.below, S.below, R.below, V.val, C.val, S.val, R.val, R.takes, vals, shows, unnamed, V.kill, V.names, C.names, S.names, R.names, List.set, List.replicate, ↓q_cond_t, ↓q_cond_f, if_true, if_false, reduceCtorEq, rvals, rvC, result, C.known, V.noL, C.noL, S.noL, R.noL, Option.map, true_and, and_true, ge_iff_le, gt_iff_lt, implies_true, q_ite_t, q_ite_f, beq_iff_eq, bne_iff_ne, q_ne, Nat.reduceAdd, Nat.reducePow, Int.reducePow, Nat.reduceMul, Nat.reduceSub, Nat.reduceLeDiff, Nat.reduceLT, Nat.reduceEqDiff, Int.reduceNeg, Int.reduceLT, Int.reduceLE, Int.reduceEq, Int.reduceNe, Int.reduceAdd, Int.reduceSub, Int.reduceMul, Int.reduceToNat, Int.reduceBEq, Int.reduceBNe, df20, TG, encG, capF, hB', r0, r1, r2, r3, r4, r5, r6, i0, i1, i2, i3, i4, i5, i6, i7, m4, m20, m25, m28, m32, m38, put, fillP, hr]
          exact hS.2 (.inr hr)
      case inr.inr.inl =>
        simp only [Int.reduceEq, or_self, or_true, true_or, or_false, false_or, if_true, if_false] at hS
        cases hr : rightB ⟨2, q1, q2, 0, w1, q6, 0, q3, q5, 0, q4⟩ with
        | true =>
          have hn : (⟨2, q1, q2, 0, w1, q6, 0, q3, q5, 0, q4⟩ : Cap).num = w1 := by simp [Cap.num]
          simp (config := { maxSteps := 10000000 }) only [EV1, EV2, EV3, EV4, EV5, EV6, addT, istep, pickR, putD, bin1R, un1R, slcR, bnd, capsOf, fillP, V.plain, V.cells, V.known, C.v, blk, setL, setH, eqS, eq1, cmpS, cmp1, isNil, popTo, killT, setT, leT, V.below, S.below, R.below, V.val, C.val, S.val, R.val, R.takes, vals, shows, unnamed, V.kill, V.names, C.names, S.names, R.names, List.set, List.replicate, ↓q_cond_t, ↓q_cond_f, if_true, if_false, reduceCtorEq, rvals, rvC, result, C.known, V.noL, C.noL, S.noL, R.noL, Option.map, true_and, and_true, ge_iff_le, gt_iff_lt, implies_true, q_ite_t, q_ite_f, beq_iff_eq, bne_iff_ne, q_ne, Nat.reduceAdd, Nat.reducePow, Int.reducePow, Nat.reduceMul, Nat.reduceSub, Nat.reduceLeDiff, Nat.reduceLT, Nat.reduceEqDiff, Int.reduceNeg, Int.reduceLT, Int.reduceLE, Int.reduceEq, Int.reduceNe, Int.reduceAdd, Int.reduceSub, Int.reduceMul, Int.reduceToNat, Int.reduceBEq, Int.reduceBNe, df20, TG, encG, capF, hB', r0, r1, r2, r3, r4, r5, r6, i0, i1, i2, i3, i4, i5, i6, i7, m4, m20, m25, m28, m32, m38, put, fillP, hr, hn]
          exact ⟨fun n => hS.2 (.inl n), fun n => hS.1 ⟨n, hr⟩⟩
        | false =>
          simp (config := { maxSteps := 10000000 }) only [EV1, EV2, EV3, EV4, EV5, EV6, addT, istep, pickR, putD, bin1R, un1R, slcR, bnd, capsOf, fillP, V.plain, V.cells, V.known, C.v, blk, setL, setH, eqS, eq1, cmpS, cmp1, isNil, popTo, killT, setT, leT, V.below, S.below, R.below, V.val, C.val, S.val, R.val, R.takes, vals, shows, unnamed, V.kill, V.names, C.names, S.names, R.names, List.set, List.replicate, ↓q_cond_t, ↓q_cond_f, if_true, if_false, reduceCtorEq, rvals, rvC, result, C.known, V.noL, C.noL, S.noL, R.noL, Option.map, true_and, and_true, ge_iff_le, gt_iff_lt, implies_true, q_ite_t, q_ite_f, beq_iff_eq, bne_iff_ne, q_ne, Nat.reduceAdd, Nat.reducePow, Int.reducePow, Nat.reduceMul, Nat.reduceSub, Nat.reduceLeDiff, Nat.reduceLT, Nat.reduceEqDiff, Int.reduceNeg, Int.reduceLT, Int.reduceLE, Int.reduceEq, Int.reduceNe, Int.reduceAdd, Int.reduceSub, Int.reduceMul, Int.reduceToNat, Int.reduceBEq, Int.reduceBNe, df20, TG, encG, capF, hB', r0, r1, r2, r3, r4, r5, r6, i0, i1, i2, i3, i4, i5, i6, i7, m4, m20, m25, m28, m32, m38, put, fillP, hr]
          exact hS.2 (.inr hr)
      case inr.inr.inr.inl =>
        simp only [Int.reduceEq, or_self, or_true, true_or, or_false, false_or, if_true, if_false] at hS
        cases hr : rightB ⟨4, q1, q2, 0, 0, q6, w1, q3, q5, 0, q4⟩ with
        | true =>
          have hn : (⟨4, q1, q2, 0, 0, q6, w1, q3, q5, 0, q4⟩ : Cap).num = w1 := by simp [Cap.num]
          simp (config := { maxSteps := 10000000 }) only [EV1, EV2, EV3, EV4, EV5, EV6, addT, istep, pickR, putD, bin1R, un1R, slcR, bnd, capsOf, fillP, V.plain, V.cells, V.known, C.v, blk, setL, setH, eqS, eq1, cmpS, cmp1, isNil, popTo, killT, setT, leT, V.below, S.below, R.below, V.val, C.val, S.val, R.val, R.takes, vals, shows, unnamed, V.kill, V.names, C.names, S.names, R.names, List.set, List.replicate, ↓q_cond_t, ↓q_cond_f, if_true, if_false, reduceCtorEq, rvals, rvC, result, C.known, V.noL, C.noL, S.noL, R.noL, Option.map, true_and, and_true, ge_iff_le, gt_iff_lt, implies_true, q_ite_t, q_ite_f, beq_iff_eq, bne_iff_ne, q_ne, Nat.reduceAdd, Nat.reducePow, Int.reducePow, Nat.reduceMul, Nat.reduceSub, Nat.reduceLeDiff, Nat.reduceLT, Nat.reduceEqDiff, Int.reduceNeg, Int.reduceLT, Int.reduceLE, Int.reduceEq, Int.reduceNe, Int.reduceAdd, Int.reduceSub, Int.reduceMul, Int.reduceToNat, Int.reduceBEq, Int.reduceBNe, df20, TG, encG, capF, hB', r0, r1, r2, r3, r4, r5, r6, i0, i1, i2, i3, i4, i5, i6, i7, m4, m20, m25, m28, m32, m38, put, fillP, hr, hn]
          exact ⟨fun n => hS.2 (.inl n), fun n => hS.1 ⟨n, hr⟩⟩
        | false =>
          simp (config := { maxSteps := 10000000 }) only [EV1, EV2, EV3, EV4, EV5, EV6, addT, istep, pickR, putD, bin1R, un1R, slcR, bnd, capsOf, fillP, V.plain, V.cells, V.known, C.v, blk, setL, setH, eqS, eq1, cmpS, cmp1, isNil, popTo, killT, setT, leT, V.below, S.below, R.below, V.val, C.val, S.val, R.val, R.takes, vals, shows, unnamed, V.kill, V.names, C.names, S.names, R.names, List.set, List.replicate, ↓q_cond_t, ↓q_cond_f, if_true, if_false, reduceCtorEq, rvals, rvC, result, C.known, V.noL, C.noL, S.noL, R.noL, Option.map, true_and, and_true, ge_iff_le, gt_iff_lt, implies_true, q_ite_t, q_ite_f, beq_iff_eq, bne_iff_ne, q_ne, Nat.reduceAdd, Nat.reducePow, Int.reducePow, Nat.reduceMul, Nat.reduceSub, Nat.reduceLeDiff, Nat.reduceLT, Nat.reduceEqDiff, Int.reduceNeg, Int.reduceLT, Int.reduceLE, Int.reduceEq, Int.reduceNe, Int.reduceAdd, Int.reduceSub, Int.reduceMul, Int.reduceToNat, Int.reduceBEq, Int.reduceBNe, df20, TG, encG, capF, hB', r0, r1, r2, r3, r4, r5, r6, i0, i1, i2, i3, i4, i5, i6, i7, m4, m20, m25, m28, m32, m38, put, fillP, hr]
          exact hS.2 (.inr hr)
      case inr.inr.inr.inr.inl =>
        simp only [Int.reduceEq, or_self, or_true, true_or, or_false, false_or, if_true, if_false] at hS
        cases hr : rightB ⟨5, q1, q2, 0, 0, q6, w1, q3, q5, 0, q4⟩ with
        | true =>
          have hn : (⟨5, q1, q2, 0, 0, q6, w1, q3, q5, 0, q4⟩ : Cap).num = w1 := by simp [Cap.num]
          simp (config := { maxSteps := 10000000 }) only [EV1, EV2, EV3, EV4, EV5, EV6, addT, istep, pickR, putD, bin1R, un1R, slcR, bnd, capsOf, fillP, V.plain, V.cells, V.known, C.v, blk, setL, setH, eqS, eq1, cmpS, cmp1, isNil, popTo, killT, setT, leT, V.below, S.below, R.below, V.val, C.val, S.val, R.val, R.takes, vals, shows, unnamed, V.kill, V.names, C.names, S.names, R.names, List.set, List.replicate, ↓q_cond_t, ↓q_cond_f, if_true, if_false, reduceCtorEq, rvals, rvC, result, C.known, V.noL, C.noL, S.noL, R.noL, Option.map, true_and, and_true, ge_iff_le, gt_iff_lt, implies_true, q_ite_t, q_ite_f, beq_iff_eq, bne_iff_ne, q_ne, Nat.reduceAdd, Nat.reducePow, Int.reducePow, Nat.reduceMul, Nat.reduceSub, Nat.reduceLeDiff, Nat.reduceLT, Nat.reduceEqDiff, Int.reduceNeg, Int.reduceLT, Int.reduceLE, Int.reduceEq, Int.reduceNe, Int.reduceAdd, Int.reduceSub, Int.reduceMul, Int.reduceToNat, Int.reduceBEq, Int.reduceBNe, df20, TG, encG, capF, hB', r0, r1, r2, r3, r4, r5, r6, i0, i1, i2, i3, i4, i5, i6, i7, m4, m20, m25, m28, m32, m38, put, fillP, hr, hn]
          exact ⟨fun n => hS.2 (.inl n), fun n => hS.1 ⟨n, hr⟩⟩
        | false =>
          simp (config := { maxSteps := 10000000 }) only [EV1, EV2, EV3, EV4, EV5, EV6, addT, istep, pickR, putD, bin1R, un1R, slcR, bnd, capsOf, fillP, V.plain, V.cells, V.known, C.v, blk, setL, setH, eqS, eq1, cmpS, cmp1, isNil, popTo, killT, setT, leT, V.below, S.below, R.below, V.val, C.val, S.val, R.val, R.takes, vals, shows, unnamed, V.kill, V.names, C.names, S.names, R.names, List.set, List.replicate, ↓q_cond_t, ↓q_cond_f, if_true, if_false, reduceCtorEq, rvals, rvC, result, C.known, V.noL, C.noL, S.noL, R.noL, Option.map, true_and, and_true, ge_iff_le, gt_iff_lt, implies_true, q_ite_t, q_ite_f, beq_iff_eq, bne_iff_ne, q_ne, Nat.reduceAdd, Nat.reducePow, Int.reducePow, Nat.reduceMul, Nat.reduceSub, Nat.reduceLeDiff, Nat.reduceLT, Nat.reduceEqDiff, Int.reduceNeg, Int.reduceLT, Int.reduceLE, Int.reduceEq, Int.reduceNe, Int.reduceAdd, Int.reduceSub, Int.reduceMul, Int.reduceToNat, Int.reduceBEq, Int.reduceBNe, df20, TG, encG, capF, hB', r0, r1, r2, r3, r4, r5, r6, i0, i1, i2, i3, i4, i5, i6, i7, m4, m20, m25, m28, m32, m38, put, fillP, hr]
          exact hS.2 (.inr hr)
      case inr.inr.inr.inr.inr.inl =>
        simp only [Int.reduceEq, or_self, or_true, true_or, or_false, false_or, if_true, if_false] at hS
        cases hr : rightB ⟨6, q1, q2, 0, 0, q6, 0, q3, q5, w1, q4⟩ with
        | true =>
          have hn : (⟨6, q1, q2, 0, 0, q6, 0, q3, q5, w1, q4⟩ : Cap).num = w1 := by simp [Cap.num]
          simp (config := { maxSteps := 10000000 }) only [EV1, EV2, EV3, EV4, EV5, EV6, addT, istep, pickR, putD, bin1R, un1R, slcR, bnd, capsOf, fillP, V.plain, V.cells, V.known, C.v, blk, setL, setH, eqS, eq1, cmpS, cmp1, isNil, popTo, killT, setT, leT, V.below, S.below, R.below, V.val, C.val, S.val, R.val, R.takes, vals, shows, unnamed, V.kill, V.names, C.names, S.names, R.names, List.set, List.replicate, ↓q_cond_t, ↓q_cond_f, if_true, if_false, reduceCtorEq, rvals, rvC, result, C.known, V.noL, C.noL, S.noL, R.noL, Option.map, true_and, and_true, ge_iff_le, gt_iff_lt, implies_true, q_ite_t, q_ite_f, beq_iff_eq, bne_iff_ne, q_ne, Nat.reduceAdd, Nat.reducePow, Int.reducePow, Nat.reduceMul, Nat.reduceSub, Nat.reduceLeDiff, Nat.reduceLT, Nat.reduceEqDiff, Int.reduceNeg, Int.reduceLT, Int.reduceLE, Int.reduceEq, Int.reduceNe, Int.reduceAdd, Int.reduceSub, Int.reduceMul, Int.reduceToNat, Int.reduceBEq, Int.reduceBNe, df20, TG, encG, capF, hB', r0, r1, r2, r3, r4, r5, r6, i0, i1, i2, i3, i4, i5, i6, i7, m4, m20, m25, m28, m32, m38, put, fillP, hr, hn]
          exact ⟨fun n => hS.2 (.inl n), fun n => hS.1 ⟨n, hr⟩⟩
        | false =>
          simp (config := { maxSteps := 10000000 }) only [EV1, EV2, EV3, EV4, EV5, EV6, addT, istep, pickR, putD, bin1R, un1R, slcR, bnd, capsOf, fillP, V.plain, V.cells, V.known, C.v, blk, setL, setH, eqS, eq1, cmpS, cmp1, isNil, popTo, killT, setT, leT, V.below, S.below, R.below, V.val, C.val, S.val, R.val, R.takes, vals, shows, unnamed, V.kill, V.names, C.names, S.names, R.names, List.set, List.replicate, ↓q_cond_t, ↓q_cond_f, if_true, if_false, reduceCtorEq, rvals, rvC, result, C.known, V.noL, C.noL, S.noL, R.noL, Option.map, true_and, and_true, ge_iff_le, gt_iff_lt, implies_true, q_ite_t, q_ite_f, beq_iff_eq, bne_iff_ne, q_ne, Nat.reduceAdd, Nat.reducePow, Int.reducePow, Nat.reduceMul, Nat.reduceSub, Nat.reduceLeDiff, Nat.reduceLT, Nat.reduceEqDiff, Int.reduceNeg, Int.reduceLT, Int.reduceLE, Int.reduceEq, Int.reduceNe, Int.reduceAdd, Int.reduceSub, Int.reduceMul, Int.reduceToNat, Int.reduceBEq, Int.reduceBNe, df20, TG, encG, capF, hB', r0, r1, r2, r3, r4, r5, r6, i0, i1, i2, i3, i4, i5, i6, i7, m4, m20, m25, m28, m32, m38, put, fillP, hr]
          exact hS.2 (.inr hr)
      case inr.inr.inr.inr.inr.inr.inl =>
        simp only [Int.reduceEq, or_self, or_true, true_or, or_false, false_or, if_true, if_false] at hS
        cases hr : rightB ⟨8, q1, q2, 0, 0, q6, 0, q3, q5, w1, q4⟩ with
        | true =>
          have hn : (⟨8, q1, q2, 0, 0, q6, 0, q3, q5, w1, q4⟩ : Cap).num = w1 := by simp [Cap.num]
          simp (config := { maxSteps := 10000000 }) only [EV1, EV2, EV3, EV4, EV5, EV6, addT, istep, pickR, putD, bin1R, un1R, slcR, bnd, capsOf, fillP, V.plain, V.cells, V.known, C.v, blk, setL, setH, eqS, eq1, cmpS, cmp1, isNil, popTo, killT, setT, leT, V.below, S.below, R.below, V.val, C.val, S.val, R.val, R.takes, vals, shows, unnamed, V.kill, V.names, C.names, S.names, R.names, List.set, List.replicate, ↓q_cond_t, ↓q_cond_f, if_true, if_false, reduceCtorEq, rvals, rvC, result, C.known, V.noL, C.noL, S.noL, R.noL, Option.map, true_and, and_true, ge_iff_le, gt_iff_lt, implies_true, q_ite_t, q_ite_f, beq_iff_eq, bne_iff_ne, q_ne, Nat.reduceAdd, Nat.reducePow, Int.reducePow, Nat.reduceMul, Nat.reduceSub, Nat.reduceLeDiff, Nat.reduceLT, Nat.reduceEqDiff, Int.reduceNeg, Int.reduceLT, Int.reduceLE, Int.reduceEq, Int.reduceNe, Int.reduceAdd, Int.reduceSub, Int.reduceMul, Int.reduceToNat, Int.reduceBEq, Int.reduceBNe, df20, TG, encG, capF, hB', r0, r1, r2, r3, r4, r5, r6, i0, i1, i2, i3, i4, i5, i6, i7, m4, m20, m25, m28, m32, m38, put, fillP, hr, hn]
          exact ⟨fun n => hS.2 (.inl n), fun n => hS.1 ⟨n, hr⟩⟩
        | false =>
          simp (config := { maxSteps := 10000000 }) only [EV1, EV2, EV3, EV4, EV5, EV6, addT, istep, pickR, putD, bin1R, un1R, slcR, bnd, capsOf, fillP, V.plain, V.cells, V.known, C.v, blk, setL, setH, eqS, eq1, cmpS, cmp1, isNil, popTo, killT, setT, leT, V.below, S.below, R.below, V.val, C.val, S.val, R.val, R.takes, vals, shows, unnamed, V.kill, V.names, C.names, S.names, R.names, List.set, List.replicate, ↓q_cond_t, ↓q_cond_f, if_true, if_false, reduceCtorEq, rvals, rvC, result, C.known, V.noL, C.noL, S.noL, R.noL, Option.map, true_and, and_true, ge_iff_le, gt_iff_lt, implies_true, q_ite_t, q_ite_f, beq_iff_eq, bne_iff_ne, q_ne, Nat.reduceAdd, Nat.reducePow, Int.reducePow, Nat.reduceMul, Nat.reduceSub, Nat.reduceLeDiff, Nat.reduceLT, Nat.reduceEqDiff, Int.reduceNeg, Int.reduceLT, Int.reduceLE, Int.reduceEq, Int.reduceNe, Int.reduceAdd, Int.reduceSub, Int.reduceMul, Int.reduceToNat, Int.reduceBEq, Int.reduceBNe, df20, TG, encG, capF, hB', r0, r1, r2, r3, r4, r5, r6, i0, i1, i2, i3, i4, i5, i6, i7, m4, m20, m25, m28, m32, m38, put, fillP, hr]
          exact hS.2 (.inr hr)
      case inr.inr.inr.inr.inr.inr.inr =>
        simp only [k2, k4, k5, k6, k8, or_self, if_false] at hS
        have hz : ¬ w1 = 0 → rightB ⟨q0, q1, q2, w1, 0, q6, 0, q3, q5, 0, q4⟩ = false := fun n => Bool.eq_false_iff.2 fun x => n (mark_zero x k1 k10)
        cases hr : rightB ⟨q0, q1, q2, 0, 0, q6, 0, q3, q5, 0, q4⟩ with
        | true =>
          have hn : (⟨q0, q1, q2, 0, 0, q6, 0, q3, q5, 0, q4⟩ : Cap).num = 0 := by simp [Cap.num]
          simp (config := { maxSteps := 10000000 }) only [EV1, EV2, EV3, EV4, EV5, EV6, addT, istep, pickR, putD, bin1R, un1R, slcR, bnd, capsOf, fillP, V.plain, V.cells, V.known, C.v, blk, setL, setH, eqS, eq1, cmpS, cmp1, isNil, popTo, killT, setT, leT, V.below, S.below, R.below, V.val, C.val, S.val, R.val, R.takes, vals, shows, unnamed, V.kill, V.names, C.names, S.names, R.names, List.set, List.replicate, ↓q_cond_t, ↓q_cond_f, if_true, if_false, reduceCtorEq, rvals, rvC, result, C.known, V.noL, C.noL, S.noL, R.noL, Option.map, true_and, and_true, ge_iff_le, gt_iff_lt, implies_true, q_ite_t, q_ite_f, beq_iff_eq, bne_iff_ne, q_ne, Nat.reduceAdd, Nat.reducePow, Int.reducePow, Nat.reduceMul, Nat.reduceSub, Nat.reduceLeDiff, Nat.reduceLT, Nat.reduceEqDiff, Int.reduceNeg, Int.reduceLT, Int.reduceLE, Int.reduceEq, Int.reduceNe, Int.reduceAdd, Int.reduceSub, Int.reduceMul, Int.reduceToNat, Int.reduceBEq, Int.reduceBNe, df20, TG, encG, capF, hB', r0, r1, r2, r3, r4, r5, r6, i0, i1, i2, i3, i4, i5, i6, i7, m4, m20, m25, m28, m32, m38, put, fillP, hr, hn, k1, k10, k2, k4, k5, k6, k8]
          refine ⟨fun n => n.elim (fun x => hS.2 (.inl x)) (fun x => hS.2 (.inr (hz (fun e => x e.symm)))), fun n => ?_⟩
          have hw : 0 = w1 := Classical.byContradiction fun x => n (.inr x)
          subst hw
          exact hS.1 ⟨Classical.byContradiction fun x => n (.inl x), hr⟩
        | false =>
          simp (config := { maxSteps := 10000000 }) only [EV1, EV2, EV3, EV4, EV5, EV6, addT, istep, pickR, putD, bin1R, un1R, slcR, bnd, capsOf, fillP, V.plain, V.cells, V.known, C.v, blk, setL, setH, eqS, eq1, cmpS, cmp1, isNil, popTo, killT, setT, leT, V.below, S.below, R.below, V.val, C.val, S.val, R.val, R.takes, vals, shows, unnamed, V.kill, V.names, C.names, S.names, R.names, List.set, List.replicate, ↓q_cond_t, ↓q_cond_f, if_true, if_false, reduceCtorEq, rvals, rvC, result, C.known, V.noL, C.noL, S.noL, R.noL, Option.map, true_and, and_true, ge_iff_le, gt_iff_lt, implies_true, q_ite_t, q_ite_f, beq_iff_eq, bne_iff_ne, q_ne, Nat.reduceAdd, Nat.reducePow, Int.reducePow, Nat.reduceMul, Nat.reduceSub, Nat.reduceLeDiff, Nat.reduceLT, Nat.reduceEqDiff, Int.reduceNeg, Int.reduceLT, Int.reduceLE, Int.reduceEq, Int.reduceNe, Int.reduceAdd, Int.reduceSub, Int.reduceMul, Int.reduceToNat, Int.reduceBEq, Int.reduceBNe, df20, TG, encG, capF, hB', r0, r1, r2, r3, r4, r5, r6, i0, i1, i2, i3, i4, i5, i6, i7, m4, m20, m25, m28, m32, m38, put, fillP, hr, k1, k10, k2, k4, k5, k6, k8]
          by_cases hw : w1 = 0
          · subst hw; exact hS.2 (.inr hr)
          · exact hS.2 (.inr (hz hw))
    · have hB' : 4294967296 ≤ w1 := by omega
      simp only [decB, hB, decide_false, Bool.false_and, Bool.and_false] at hS
      simp (config := { maxSteps := 10000000 }) only [EV1, EV2, EV3, EV4, EV5, EV6, addT, istep, pickR, putD, bin1R, un1R, slcR, bnd, capsOf, fillP, V.plain, V.cells, V.known, C.v, blk, setL, setH, eqS, eq1, cmpS, cmp1, isNil, popTo, killT, setT, leT, V.below, S.below, R.below, V.val, C.val, S.val, R.val, R.takes, vals, shows, unnamed, V.kill, V.names, C.names, S.names, R.names, List.set, List.replicate, ↓q_cond_t, ↓q_cond_f, if_true, if_false, reduceCtorEq, rvals, rvC, result, C.known, V.noL, C.noL, S.noL, R.noL, Option.map, true_and, and_true, ge_iff_le, gt_iff_lt, implies_true, q_ite_t, q_ite_f, beq_iff_eq, bne_iff_ne, q_ne, Nat.reduceAdd, Nat.reducePow, Int.reducePow, Nat.reduceMul, Nat.reduceSub, Nat.reduceLeDiff, Nat.reduceLT, Nat.reduceEqDiff, Int.reduceNeg, Int.reduceLT, Int.reduceLE, Int.reduceEq, Int.reduceNe, Int.reduceAdd, Int.reduceSub, Int.reduceMul, Int.reduceToNat, Int.reduceBEq, Int.reduceBNe, df20, TG, encG, capF, hB', put, fillP]
      exact hS.2 trivial
  · exact hS.elim
end Go.Proofs.Ythegocjfnjfkdaa

/- Caps: Words, Same. -/
namespace Go.Proofs.Ythegocjfnjfkdaa
open Go.D
set_option linter.all false
set_option maxRecDepth 100000
set_option maxHeartbeats 4000000

def capWG (args : List V) (h : List Blk) : Res := capF (fun c => .br (rightB c) (.ok (.s (.i .i64 (szN c))) [] h) (.ok (.s (.i .i64 0)) [] h)) args
def TW : Tab := addT 15 rightG (addT 49 sizesG noT)
theorem TW_snd : TW.Snd Try.prog := addT_snd ok15 right_snd (addT_snd ok49 sizes_snd (noT_snd _))
theorem words_snd : Snd Try.prog 21 (FSpec.of capWG) := snd_run TW_snd mixed Try.func21 dc21 100 fun args h K hc hS => by
  obtain ⟨⟨t, o, b, d, e, g, i, j, k, l, m⟩, rfl, hR⟩ := capF_spec hS
  clear hS
  simp only [spec_br, spec_ok] at hR
  simp only [Cap.cl]
  cases hr : rightB ⟨t, o, b, d, e, g, i, j, k, l, m⟩ with
  | true =>
    have hQ := hR.1 hr
    simp (config := { maxSteps := 10000000 }) only [EV1, EV2, EV3, EV4, EV5, EV6, addT, istep, pickR, putD, bin1R, un1R, slcR, bnd, capsOf, fillP, V.plain, V.cells, V.known, C.v, blk, setL, setH, eqS, eq1, cmpS, cmp1, isNil, popTo, killT, setT, leT, V.below, S.below, R.below, V.val, C.val, S.val, R.val, R.takes, vals, shows, unnamed, V.kill, V.names, C.names, S.names, R.names, List.set, List.replicate, ↓q_cond_t, ↓q_cond_f, if_true, if_false, reduceCtorEq, rvals, rvC, result, C.known, V.noL, C.noL, S.noL, R.noL, Option.map, true_and, and_true, ge_iff_le, gt_iff_lt, implies_true, q_ite_t, q_ite_f, beq_iff_eq, bne_iff_ne, q_ne, Nat.reduceAdd, Nat.reducePow, Int.reducePow, Nat.reduceMul, Nat.reduceSub, Nat.reduceLeDiff, Nat.reduceLT, Nat.reduceEqDiff, Int.reduceNeg, Int.reduceLT, Int.reduceLE, Int.reduceEq, Int.reduceNe, Int.reduceAdd, Int.reduceSub, Int.reduceMul, Int.reduceToNat, Int.reduceBEq, Int.reduceBNe, df21, TW, rightG, sizesG, capF, hr]
    exact hQ
  | false =>
    have hQ := hR.2 hr
    simp (config := { maxSteps := 10000000 }) only [EV1, EV2, EV3, EV4, EV5, EV6, addT, istep, pickR, putD, bin1R, un1R, slcR, bnd, capsOf, fillP, V.plain, V.cells, V.known, C.v, blk, setL, setH, eqS, eq1, cmpS, cmp1, isNil, popTo, killT, setT, leT, V.below, S.below, R.below, V.val, C.val, S.val, R.val, R.takes, vals, shows, unnamed, V.kill, V.names, C.names, S.names, R.names, List.set, List.replicate, ↓q_cond_t, ↓q_cond_f, if_true, if_false, reduceCtorEq, rvals, rvC, result, C.known, V.noL, C.noL, S.noL, R.noL, Option.map, true_and, and_true, ge_iff_le, gt_iff_lt, implies_true, q_ite_t, q_ite_f, beq_iff_eq, bne_iff_ne, q_ne, Nat.reduceAdd, Nat.reducePow, Int.reducePow, Nat.reduceMul, Nat.reduceSub, Nat.reduceLeDiff, Nat.reduceLT, Nat.reduceEqDiff, Int.reduceNeg, Int.reduceLT, Int.reduceLE, Int.reduceEq, Int.reduceNe, Int.reduceAdd, Int.reduceSub, Int.reduceMul, Int.reduceToNat, Int.reduceBEq, Int.reduceBNe, df21, TW, rightG, sizesG, capF, hr]
    exact hQ
theorem rsz_eq {c : Cap} (h : rightB c = true) : rszN c = szN c := by
  obtain ⟨t, o, b, d, e, g, i, j, k, l, m⟩ := c
  simp only [rightB] at h
  simp only [rszN, szN]
  rcases kinds t with rfl | rfl | rfl | rfl | rfl | rfl | rfl | rfl | rfl | rfl | rfl | rfl | rfl | rfl | ⟨k0, k1, k2, k3, k4, k5, k6, k7, k8, k9, k10, k11, k12, k13, ho⟩
  case inr.inr.inr.inr.inr.inr.inr.inr.inr.inr.inr.inr.inr.inr => simp only [k0, k1, k2, k3, k4, k5, k6, k7, k8, k9, k10, k11, k12, k13, if_false]
  all_goals simp only [Int.reduceEq, if_true, if_false, ite_t, ite_f, not_or, Classical.not_not, nOk_iff] at h ⊢
  · rw [if_pos h.1.1, shR_u h.1.1]
  · rw [if_pos h.1.1, shR_n h.1.1]
  · rcases zrange.1 h.1.1 with rfl | hb
    · rfl
    · rw [if_pos hb, shR_n hb, if_neg (by omega)]
def TX : Tab := addT 16 rightG (addT 54 sizeG noT)
theorem TX_snd : TX.Snd Try.prog := addT_snd ok16 rright_snd (addT_snd ok54 rsize_snd (noT_snd _))
theorem rwords_snd : Snd Try.prog 22 (FSpec.of capWG) := snd_run TX_snd mixed Try.func22 dc22 100 fun args h K hc hS => by
  obtain ⟨⟨t, o, b, d, e, g, i, j, k, l, m⟩, rfl, hR⟩ := capF_spec hS
  clear hS
  simp only [spec_br, spec_ok] at hR
  simp only [Cap.cl]
  cases hr : rightB ⟨t, o, b, d, e, g, i, j, k, l, m⟩ with
  | true =>
    have hQ := hR.1 hr
    rw [← rsz_eq hr] at hQ
    simp (config := { maxSteps := 10000000 }) only [EV1, EV2, EV3, EV4, EV5, EV6, addT, istep, pickR, putD, bin1R, un1R, slcR, bnd, capsOf, fillP, V.plain, V.cells, V.known, C.v, blk, setL, setH, eqS, eq1, cmpS, cmp1, isNil, popTo, killT, setT, leT, V.below, S.below, R.below, V.val, C.val, S.val, R.val, R.takes, vals, shows, unnamed, V.kill, V.names, C.names, S.names, R.names, List.set, List.replicate, ↓q_cond_t, ↓q_cond_f, if_true, if_false, reduceCtorEq, rvals, rvC, result, C.known, V.noL, C.noL, S.noL, R.noL, Option.map, true_and, and_true, ge_iff_le, gt_iff_lt, implies_true, q_ite_t, q_ite_f, beq_iff_eq, bne_iff_ne, q_ne, Nat.reduceAdd, Nat.reducePow, Int.reducePow, Nat.reduceMul, Nat.reduceSub, Nat.reduceLeDiff, Nat.reduceLT, Nat.reduceEqDiff, Int.reduceNeg, Int.reduceLT, Int.reduceLE, Int.reduceEq, Int.reduceNe, Int.reduceAdd, Int.reduceSub, Int.reduceMul, Int.reduceToNat, Int.reduceBEq, Int.reduceBNe, df22, TX, rightG, sizeG, capF, hr]
    exact hQ
  | false =>
    have hQ := hR.2 hr
    simp (config := { maxSteps := 10000000 }) only [EV1, EV2, EV3, EV4, EV5, EV6, addT, istep, pickR, putD, bin1R, un1R, slcR, bnd, capsOf, fillP, V.plain, V.cells, V.known, C.v, blk, setL, setH, eqS, eq1, cmpS, cmp1, isNil, popTo, killT, setT, leT, V.below, S.below, R.below, V.val, C.val, S.val, R.val, R.takes, vals, shows, unnamed, V.kill, V.names, C.names, S.names, R.names, List.set, List.replicate, ↓q_cond_t, ↓q_cond_f, if_true, if_false, reduceCtorEq, rvals, rvC, result, C.known, V.noL, C.noL, S.noL, R.noL, Option.map, true_and, and_true, ge_iff_le, gt_iff_lt, implies_true, q_ite_t, q_ite_f, beq_iff_eq, bne_iff_ne, q_ne, Nat.reduceAdd, Nat.reducePow, Int.reducePow, Nat.reduceMul, Nat.reduceSub, Nat.reduceLeDiff, Nat.reduceLT, Nat.reduceEqDiff, Int.reduceNeg, Int.reduceLT, Int.reduceLE, Int.reduceEq, Int.reduceNe, Int.reduceAdd, Int.reduceSub, Int.reduceMul, Int.reduceToNat, Int.reduceBEq, Int.reduceBNe, df22, TX, rightG, sizeG, capF, hr]
    exact hQ
end Go.Proofs.Ythegocjfnjfkdaa

/- Caps: Same. -/
namespace Go.Proofs.Ythegocjfnjfkdaa
open Go.D
set_option linter.all false
set_option maxRecDepth 100000
set_option maxHeartbeats 4000000

/-- Two caps as arguments. -/
def cap2F (f : Cap → Cap → Res) : List V → Res
  | [x, y] => capF (fun c => capF (fun d => f c d) [y]) [x]
  | _ => .bad
theorem cap2F_spec {f : Cap → Cap → Res} {args : List V} {K : V → List Blk → Prop} (h : (cap2F f args).spec K) : ∃ c d : Cap, args = [.agg c.cl, .agg d.cl] ∧ (f c d).spec K := by
  unfold cap2F at h
  split at h
  · obtain ⟨c, e, h⟩ := capF_spec h
    obtain ⟨d, e', h⟩ := capF_spec h
    simp only [List.cons.injEq, and_true] at e e'
    subst e; subst e'
    exact ⟨c, d, rfl, h⟩
  · exact h.elim

def oneC (c : Cap) : Cap := if c.ty = 12 then ⟨12, c.obj, 0, 0, 0, 0, 0, 0, 0, 0, c.line⟩ else ⟨c.ty, c.obj, 0, 0, 0, 0, 0, 0, 0, 0, 0⟩
def oneG (args : List V) (h : List Blk) : Res := capF (fun c => .ok (.agg (oneC c).cl) [] h) args
theorem one_snd : Snd Try.prog 61 (FSpec.of oneG) := snd_run (noT_snd _) mixed Try.func61 dc61 100 fun args h K hc hS => by
  obtain ⟨⟨t, o, b, d, e, g, i, j, k, l, m⟩, rfl, hR⟩ := capF_spec hS
  clear hS
  simp only [spec_ok, oneC] at hR
  simp only [Cap.cl]
  by_cases ht : t = 12
  · subst ht
    simp only [if_true] at hR
    simp (config := { maxSteps := 10000000 }) only [EV1, EV2, EV3, EV4, EV5, EV6, addT, istep, pickR, putD, bin1R, un1R, slcR, bnd, capsOf, fillP, V.plain, V.cells, V.known, C.v, blk, setL, setH, eqS, eq1, cmpS, cmp1, isNil, popTo, killT, setT, leT, V.below, S.below, R.below, V.val, C.val, S.val, R.val, R.takes, vals, shows, unnamed, V.kill, V.names, C.names, S.names, R.names, List.set, List.replicate, ↓q_cond_t, ↓q_cond_f, if_true, if_false, reduceCtorEq, rvals, rvC, result, C.known, V.noL, C.noL, S.noL, R.noL, Option.map, true_and, and_true, ge_iff_le, gt_iff_lt, implies_true, q_ite_t, q_ite_f, beq_iff_eq, bne_iff_ne, q_ne, Nat.reduceAdd, Nat.reducePow, Int.reducePow, Nat.reduceMul, Nat.reduceSub, Nat.reduceLeDiff, Nat.reduceLT, Nat.reduceEqDiff, Int.reduceNeg, Int.reduceLT, Int.reduceLE, Int.reduceEq, Int.reduceNe, Int.reduceAdd, Int.reduceSub, Int.reduceMul, Int.reduceToNat, Int.reduceBEq, Int.reduceBNe, df61, put, fillP]
    exact hR
  · simp only [ht, if_false] at hR
    simp (config := { maxSteps := 10000000 }) only [EV1, EV2, EV3, EV4, EV5, EV6, addT, istep, pickR, putD, bin1R, un1R, slcR, bnd, capsOf, fillP, V.plain, V.cells, V.known, C.v, blk, setL, setH, eqS, eq1, cmpS, cmp1, isNil, popTo, killT, setT, leT, V.below, S.below, R.below, V.val, C.val, S.val, R.val, R.takes, vals, shows, unnamed, V.kill, V.names, C.names, S.names, R.names, List.set, List.replicate, ↓q_cond_t, ↓q_cond_f, if_true, if_false, reduceCtorEq, rvals, rvC, result, C.known, V.noL, C.noL, S.noL, R.noL, Option.map, true_and, and_true, ge_iff_le, gt_iff_lt, implies_true, q_ite_t, q_ite_f, beq_iff_eq, bne_iff_ne, q_ne, Nat.reduceAdd, Nat.reducePow, Int.reducePow, Nat.reduceMul, Nat.reduceSub, Nat.reduceLeDiff, Nat.reduceLT, Nat.reduceEqDiff, Int.reduceNeg, Int.reduceLT, Int.reduceLE, Int.reduceEq, Int.reduceNe, Int.reduceAdd, Int.reduceSub, Int.reduceMul, Int.reduceToNat, Int.reduceBEq, Int.reduceBNe, df61, put, fillP, ht]
    exact hR

def sameB (c d : Cap) : Bool := !(c.ty == 0) && (c.ty == d.ty && (c.obj == d.obj && (!(c.ty == 12) || c.line == d.line)))
def sameG (args : List V) (h : List Blk) : Res := cap2F (fun c d => .ok (.s (.b (sameB c d))) [] h) args
def TS : Tab := addT 61 oneG noT
theorem TS_snd : TS.Snd Try.prog := addT_snd ok61 one_snd (noT_snd _)
theorem same_snd : Snd Try.prog 23 (FSpec.of sameG) := snd_run TS_snd mixed Try.func23 dc23 100 fun args h K hc hS => by
  obtain ⟨⟨t, o, b, d, e, g, i, j, k, l, m⟩, ⟨t2, o2, b2, d2, e2, g2, i2, j2, k2, l2, m2⟩, rfl, hR⟩ := cap2F_spec hS
  clear hS
  simp only [spec_ok, sameB] at hR
  simp only [Cap.cl]
  by_cases ht : t = 12
  · subst ht
    by_cases hu : t2 = 12
    · subst hu
      simp (config := { maxSteps := 10000000 }) only [EV1, EV2, EV3, EV4, EV5, EV6, addT, istep, pickR, putD, bin1R, un1R, slcR, bnd, capsOf, fillP, V.plain, V.cells, V.known, C.v, blk, setL, setH, eqS, eq1, cmpS, cmp1, isNil, popTo, killT, setT, leT, V.below, S.below, R.below, V.val, C.val, S.val, R.val, R.takes, vals, shows, unnamed, V.kill, V.names, C.names, S.names, R.names, List.set, List.replicate, ↓q_cond_t, ↓q_cond_f, if_true, if_false, reduceCtorEq, rvals, rvC, result, C.known, V.noL, C.noL, S.noL, R.noL, Option.map, true_and, and_true, ge_iff_le, gt_iff_lt, implies_true, q_ite_t, q_ite_f, beq_iff_eq, bne_iff_ne, q_ne, Nat.reduceAdd, Nat.reducePow, Int.reducePow, Nat.reduceMul, Nat.reduceSub, Nat.reduceLeDiff, Nat.reduceLT, Nat.reduceEqDiff, Int.reduceNeg, Int.reduceLT, Int.reduceLE, Int.reduceEq, Int.reduceNe, Int.reduceAdd, Int.reduceSub, Int.reduceMul, Int.reduceToNat, Int.reduceBEq, Int.reduceBNe, df23, TS, oneG, oneC, capF, Cap.cl]
      refine cast (congrArg (fun x => K (V.s (S.b x)) h) ?_) hR
      rfl
    · simp (config := { maxSteps := 10000000 }) only [EV1, EV2, EV3, EV4, EV5, EV6, addT, istep, pickR, putD, bin1R, un1R, slcR, bnd, capsOf, fillP, V.plain, V.cells, V.known, C.v, blk, setL, setH, eqS, eq1, cmpS, cmp1, isNil, popTo, killT, setT, leT, V.below, S.below, R.below, V.val, C.val, S.val, R.val, R.takes, vals, shows, unnamed, V.kill, V.names, C.names, S.names, R.names, List.set, List.replicate, ↓q_cond_t, ↓q_cond_f, if_true, if_false, reduceCtorEq, rvals, rvC, result, C.known, V.noL, C.noL, S.noL, R.noL, Option.map, true_and, and_true, ge_iff_le, gt_iff_lt, implies_true, q_ite_t, q_ite_f, beq_iff_eq, bne_iff_ne, q_ne, Nat.reduceAdd, Nat.reducePow, Int.reducePow, Nat.reduceMul, Nat.reduceSub, Nat.reduceLeDiff, Nat.reduceLT, Nat.reduceEqDiff, Int.reduceNeg, Int.reduceLT, Int.reduceLE, Int.reduceEq, Int.reduceNe, Int.reduceAdd, Int.reduceSub, Int.reduceMul, Int.reduceToNat, Int.reduceBEq, Int.reduceBNe, df23, TS, oneG, oneC, capF, Cap.cl, hu]
      refine cast (congrArg (fun x => K (V.s (S.b x)) h) ?_) hR
      have : (12 == t2) = false := by simpa using fun e => hu e.symm
      simp only [this, Bool.false_and, Bool.and_false]
  · by_cases hu : t2 = 12
    · subst hu
      simp (config := { maxSteps := 10000000 }) only [EV1, EV2, EV3, EV4, EV5, EV6, addT, istep, pickR, putD, bin1R, un1R, slcR, bnd, capsOf, fillP, V.plain, V.cells, V.known, C.v, blk, setL, setH, eqS, eq1, cmpS, cmp1, isNil, popTo, killT, setT, leT, V.below, S.below, R.below, V.val, C.val, S.val, R.val, R.takes, vals, shows, unnamed, V.kill, V.names, C.names, S.names, R.names, List.set, List.replicate, ↓q_cond_t, ↓q_cond_f, if_true, if_false, reduceCtorEq, rvals, rvC, result, C.known, V.noL, C.noL, S.noL, R.noL, Option.map, true_and, and_true, ge_iff_le, gt_iff_lt, implies_true, q_ite_t, q_ite_f, beq_iff_eq, bne_iff_ne, q_ne, Nat.reduceAdd, Nat.reducePow, Int.reducePow, Nat.reduceMul, Nat.reduceSub, Nat.reduceLeDiff, Nat.reduceLT, Nat.reduceEqDiff, Int.reduceNeg, Int.reduceLT, Int.reduceLE, Int.reduceEq, Int.reduceNe, Int.reduceAdd, Int.reduceSub, Int.reduceMul, Int.reduceToNat, Int.reduceBEq, Int.reduceBNe, df23, TS, oneG, oneC, capF, Cap.cl, ht]
      refine cast (congrArg (fun x => K (V.s (S.b x)) h) ?_) hR
      have : (t == 12) = false := by simpa using ht
      simp only [this, Bool.false_and, Bool.and_false]
    · simp (config := { maxSteps := 10000000 }) only [EV1, EV2, EV3, EV4, EV5, EV6, addT, istep, pickR, putD, bin1R, un1R, slcR, bnd, capsOf, fillP, V.plain, V.cells, V.known, C.v, blk, setL, setH, eqS, eq1, cmpS, cmp1, isNil, popTo, killT, setT, leT, V.below, S.below, R.below, V.val, C.val, S.val, R.val, R.takes, vals, shows, unnamed, V.kill, V.names, C.names, S.names, R.names, List.set, List.replicate, ↓q_cond_t, ↓q_cond_f, if_true, if_false, reduceCtorEq, rvals, rvC, result, C.known, V.noL, C.noL, S.noL, R.noL, Option.map, true_and, and_true, ge_iff_le, gt_iff_lt, implies_true, q_ite_t, q_ite_f, beq_iff_eq, bne_iff_ne, q_ne, Nat.reduceAdd, Nat.reducePow, Int.reducePow, Nat.reduceMul, Nat.reduceSub, Nat.reduceLeDiff, Nat.reduceLT, Nat.reduceEqDiff, Int.reduceNeg, Int.reduceLT, Int.reduceLE, Int.reduceEq, Int.reduceNe, Int.reduceAdd, Int.reduceSub, Int.reduceMul, Int.reduceToNat, Int.reduceBEq, Int.reduceBNe, df23, TS, oneG, oneC, capF, Cap.cl, ht, hu]
      refine cast (congrArg (fun x => K (V.s (S.b x)) h) ?_) hR
      have : (t == 12) = false := by simpa using ht
      simp only [this, Bool.not_false, Bool.true_or, Bool.and_true]
      rfl
theorem rsame_snd : Snd Try.prog 24 (FSpec.of sameG) := snd_run (noT_snd _) mixed Try.func24 dc24 100 fun args h K hc hS => by
  obtain ⟨⟨t, o, b, d, e, g, i, j, k, l, m⟩, ⟨t2, o2, b2, d2, e2, g2, i2, j2, k2, l2, m2⟩, rfl, hR⟩ := cap2F_spec hS
  clear hS
  simp only [spec_ok, sameB] at hR
  simp only [Cap.cl]
  simp (config := { maxSteps := 10000000 }) only [EV1, EV2, EV3, EV4, EV5, EV6, addT, istep, pickR, putD, bin1R, un1R, slcR, bnd, capsOf, fillP, V.plain, V.cells, V.known, C.v, blk, setL, setH, eqS, eq1, cmpS, cmp1, isNil, popTo, killT, setT, leT, V.below, S.below, R.below, V.val, C.val, S.val, R.val, R.takes, vals, shows, unnamed, V.kill, V.names, C.names, S.names, R.names, List.set, List.replicate, ↓q_cond_t, ↓q_cond_f, if_true, if_false, reduceCtorEq, rvals, rvC, result, C.known, V.noL, C.noL, S.noL, R.noL, Option.map, true_and, and_true, ge_iff_le, gt_iff_lt, implies_true, q_ite_t, q_ite_f, beq_iff_eq, bne_iff_ne, q_ne, Nat.reduceAdd, Nat.reducePow, Int.reducePow, Nat.reduceMul, Nat.reduceSub, Nat.reduceLeDiff, Nat.reduceLT, Nat.reduceEqDiff, Int.reduceNeg, Int.reduceLT, Int.reduceLE, Int.reduceEq, Int.reduceNe, Int.reduceAdd, Int.reduceSub, Int.reduceMul, Int.reduceToNat, Int.reduceBEq, Int.reduceBNe, df24]
  refine cast (congrArg (fun x => K (V.s (S.b x)) h) ?_) hR
  rfl
end Go.Proofs.Ythegocjfnjfkdaa

/- Law 06: awake. -/
namespace Go.Proofs.Ythegocjfnjfkdaa
open Go.D
set_option linter.all false
set_option maxRecDepth 100000
set_option maxHeartbeats 4000000

def TA6 : Tab := addT 17 encG (addT 19 decG (addT 15 rightG (addT 21 capWG (addT 23 sameG noT))))
theorem TA6_snd : TA6.Snd Try.prog := addT_snd ok17 enc_snd (addT_snd ok19 dec_snd (addT_snd ok15 right_snd (addT_snd ok21 words_snd (addT_snd ok23 same_snd (noT_snd _)))))
def awake6G : List V → List Blk → Res
  | [], h => .ok (.s (.b true)) [] h
  | _, _ => .bad
theorem awake6_snd : Snd Try.prog 14 (FSpec.of awake6G) := snd_run TA6_snd mixed Try.func14 dc14 200 fun args h K hc hS => by
  unfold awake6G at hS
  split at hS
  · simp only [spec_ok] at hS
    have a1 : rightB ⟨4, 1024, 0, 0, 0, 0, 5, 7, 0, 0, 0⟩ = true := by decide
    have a2 : (⟨4, 1024, 0, 0, 0, 0, 5, 7, 0, 0, 0⟩ : Cap).w0 = 234897412 := by decide
    have a3 : (⟨4, 1024, 0, 0, 0, 0, 5, 7, 0, 0, 0⟩ : Cap).num = 5 := by decide
    have a4 : decB 11567105 64 = true := by decide
    have a5 : decC 11567105 64 = ⟨1, 2048, 11, 64, 0, 0, 0, 0, 0, 0, 0⟩ := by rfl
    have a6 : rightB ⟨1, 1024, 11, 0, 0, 0, 0, 0, 0, 0, 0⟩ = false := by decide
    have a7 : decB 14 0 = false := by decide
    have a8 : rightB ⟨2, 2048, 8, 0, 0, 0, 0, 0, 0, 0, 0⟩ = true := by decide
    have a9 : szN ⟨2, 2048, 8, 0, 0, 0, 0, 0, 0, 0, 0⟩ = 1024 := by decide
    have aa : sameB ⟨5, 1024, 0, 0, 0, 0, 1, 0, 0, 0, 0⟩ ⟨5, 1024, 0, 0, 0, 0, 0, 0, 0, 0, 0⟩ = true := by decide
    have b1 : u64 11567105 ∧ u64 64 := by simp only [u64]; omega
    have b2 : u64 14 ∧ u64 0 := by simp only [u64]; omega
    simp (config := { maxSteps := 10000000 }) only [EV1, EV2, EV3, EV4, EV5, EV6, addT, istep, pickR, putD, bin1R, un1R, slcR, bnd, capsOf, fillP, V.plain, V.cells, V.known, C.v, blk, setL, setH, eqS, eq1, cmpS, cmp1, isNil, popTo, killT, setT, leT, V.below, S.below, R.below, V.val, C.val, S.val, R.val, R.takes, vals, shows, unnamed, V.kill, V.names, C.names, S.names, R.names, List.set, List.replicate, ↓q_cond_t, ↓q_cond_f, if_true, if_false, reduceCtorEq, rvals, rvC, result, C.known, V.noL, C.noL, S.noL, R.noL, Option.map, true_and, and_true, ge_iff_le, gt_iff_lt, implies_true, q_ite_t, q_ite_f, beq_iff_eq, bne_iff_ne, q_ne, Nat.reduceAdd, Nat.reducePow, Int.reducePow, Nat.reduceMul, Nat.reduceSub, Nat.reduceLeDiff, Nat.reduceLT, Nat.reduceEqDiff, Int.reduceNeg, Int.reduceLT, Int.reduceLE, Int.reduceEq, Int.reduceNe, Int.reduceAdd, Int.reduceSub, Int.reduceMul, Int.reduceToNat, Int.reduceBEq, Int.reduceBNe, df14, TA6, encG, decG, rightG, capWG, sameG, cap2F, capF, a1, a2, a3, a4, a5, a6, a7, a8, a9, aa, b1, b2, Cap.cl, capZ, put, fillP]
    exact hS
  · exact hS.elim
end Go.Proofs.Ythegocjfnjfkdaa

/- Law 06: CapsWords. -/
namespace Go.Proofs.Ythegocjfnjfkdaa
open Go.D
set_option linter.all false
set_option maxRecDepth 100000
set_option maxHeartbeats 4000000

def T6 : Tab := addT 14 awake6G (addT 17 encG (addT 19 decG (addT 15 rightG (addT 21 capWG (addT 23 sameG
  (addT 18 encG (addT 20 decG (addT 16 rightG (addT 22 capWG (addT 24 sameG noT))))))))))
theorem T6_snd : T6.Snd Try.prog := addT_snd ok14 awake6_snd (addT_snd ok17 enc_snd (addT_snd ok19 dec_snd (addT_snd ok15 right_snd (addT_snd ok21 words_snd (addT_snd ok23 same_snd
  (addT_snd ok18 renc_snd (addT_snd ok20 rdec_snd (addT_snd ok16 rright_snd (addT_snd ok22 rwords_snd (addT_snd ok24 rsame_snd (noT_snd _)))))))))))

def capsWordsG : List V → List Blk → Res
  | [.agg [.i .i64 a, .i .i64 b, .i .i64 c, .i .i64 d, .i .i64 e, .i .i64 g, .i .i64 i, .i .i64 j, .i .i64 k, .i .i64 l, .i .i64 m, .i .i64 a2, .i .i64 b2, .i .i64 c2, .i .i64 d2, .i .i64 e2, .i .i64 g2, .i .i64 i2, .i .i64 j2, .i .i64 k2, .i .i64 l2, .i .i64 m2, .i .u64 w0, .i .u64 w1]], h => .ob (u64 w0 ∧ u64 w1) (.ok (.s (.b true)) [] h)
  | _, _ => .bad
theorem capsWords_snd : Snd Try.prog 3 (FSpec.of capsWordsG) := snd_run T6_snd mixed Try.func3 dc3 300 fun args h K hc hS => by
  unfold capsWordsG at hS
  split at hS
  · rename_i a b c d e g i j k l m a2 b2 c2 d2 e2 g2 i2 j2 k2 l2 m2 w0 w1
    obtain ⟨hw, hS⟩ := hS
    simp only [spec_ok] at hS
    cases hr : rightB ⟨a, b, c, d, e, g, i, j, k, l, m⟩ <;> cases hd : decB w0 w1
    all_goals simp (config := { maxSteps := 10000000 }) only [EV1, EV2, EV3, EV4, EV5, EV6, addT, istep, pickR, putD, bin1R, un1R, slcR, bnd, capsOf, fillP, V.plain, V.cells, V.known, C.v, blk, setL, setH, eqS, eq1, cmpS, cmp1, isNil, popTo, killT, setT, leT, V.below, S.below, R.below, V.val, C.val, S.val, R.val, R.takes, vals, shows, unnamed, V.kill, V.names, C.names, S.names, R.names, List.set, List.replicate, ↓q_cond_t, ↓q_cond_f, if_true, if_false, reduceCtorEq, rvals, rvC, result, C.known, V.noL, C.noL, S.noL, R.noL, Option.map, true_and, and_true, ge_iff_le, gt_iff_lt, implies_true, q_ite_t, q_ite_f, beq_iff_eq, bne_iff_ne, q_ne, Nat.reduceAdd, Nat.reducePow, Int.reducePow, Nat.reduceMul, Nat.reduceSub, Nat.reduceLeDiff, Nat.reduceLT, Nat.reduceEqDiff, Int.reduceNeg, Int.reduceLT, Int.reduceLE, Int.reduceEq, Int.reduceNe, Int.reduceAdd, Int.reduceSub, Int.reduceMul, Int.reduceToNat, Int.reduceBEq, Int.reduceBNe, df3, T6, awake6G, encG, decG, rightG, capWG, sameG, cap2F, capF, hr, hd, hw, Cap.cl, capZ, put, fillP, sub, List.drop, List.take, List.drop_succ_cons, List.drop_zero, List.take_succ_cons, List.take_zero]
    all_goals exact hS
  · exact hS.elim
end Go.Proofs.Ythegocjfnjfkdaa

/- Law 06: CapsRead. -/
namespace Go.Proofs.Ythegocjfnjfkdaa
open Go.D
set_option linter.all false
set_option maxRecDepth 100000
set_option maxHeartbeats 4000000

theorem dec_back {w0 w1 : Int} (h0 : u64 w0) (h : decB w0 w1 = true) : rightB (decC w0 w1) = true ∧ (decC w0 w1).w0 = w0 ∧ (decC w0 w1).num = w1 := by
  obtain ⟨w, rfl, hw⟩ := h0.nat
  simp only [decB, Bool.and_eq_true, decide_eq_true_eq] at h
  refine ⟨h.2.2, w0_back.2 h.1, ?_⟩
  simp only [decC, Cap.num]
  split <;> split <;> split <;> split <;> omega

theorem cap_eta (c : Cap) : (⟨c.ty, c.obj, c.bits, c.mark, c.guard, c.gbits, c.badge, c.rights, c.asid, c.vaddr, c.line⟩ : Cap) = c := rfl
def capsReadG : List V → List Blk → Res
  | [.s (.i .u64 w0), .s (.i .u64 w1)], h => .ob (u64 w0 ∧ u64 w1) (.ok (.s (.b true)) [] h)
  | _, _ => .bad
theorem capsRead_snd : Snd Try.prog 5 (FSpec.of capsReadG) := snd_run T6_snd mixed Try.func5 dc5 300 fun args h K hc hS => by
  unfold capsReadG at hS
  split at hS
  · rename_i w0 w1
    obtain ⟨hw, hS⟩ := hS
    simp only [spec_ok] at hS
    cases hd : decB w0 w1 with
    | false =>
      simp (config := { maxSteps := 10000000 }) only [EV1, EV2, EV3, EV4, EV5, EV6, addT, istep, pickR, putD, bin1R, un1R, slcR, bnd, capsOf, fillP, V.plain, V.cells, V.known, C.v, blk, setL, setH, eqS, eq1, cmpS, cmp1, isNil, popTo, killT, setT, leT, V.below, S.below, R.below, V.val, C.val, S.val, R.val, R.takes, vals, shows, unnamed, V.kill, V.names, C.names, S.names, R.names, List.set, List.replicate, ↓q_cond_t, ↓q_cond_f, if_true, if_false, reduceCtorEq, rvals, rvC, result, C.known, V.noL, C.noL, S.noL, R.noL, Option.map, true_and, and_true, ge_iff_le, gt_iff_lt, implies_true, q_ite_t, q_ite_f, beq_iff_eq, bne_iff_ne, q_ne, Nat.reduceAdd, Nat.reducePow, Int.reducePow, Nat.reduceMul, Nat.reduceSub, Nat.reduceLeDiff, Nat.reduceLT, Nat.reduceEqDiff, Int.reduceNeg, Int.reduceLT, Int.reduceLE, Int.reduceEq, Int.reduceNe, Int.reduceAdd, Int.reduceSub, Int.reduceMul, Int.reduceToNat, Int.reduceBEq, Int.reduceBNe, df5, T6, awake6G, encG, decG, rightG, capWG, sameG, cap2F, capF, hd, hw, Cap.cl, capZ, put, fillP]
      exact hS
    | true =>
      obtain ⟨c1, c2, c3⟩ := dec_back hw.1 hd
      simp (config := { maxSteps := 10000000 }) only [EV1, EV2, EV3, EV4, EV5, EV6, addT, istep, pickR, putD, bin1R, un1R, slcR, bnd, capsOf, fillP, V.plain, V.cells, V.known, C.v, blk, setL, setH, eqS, eq1, cmpS, cmp1, isNil, popTo, killT, setT, leT, V.below, S.below, R.below, V.val, C.val, S.val, R.val, R.takes, vals, shows, unnamed, V.kill, V.names, C.names, S.names, R.names, List.set, List.replicate, ↓q_cond_t, ↓q_cond_f, if_true, if_false, reduceCtorEq, rvals, rvC, result, C.known, V.noL, C.noL, S.noL, R.noL, Option.map, true_and, and_true, ge_iff_le, gt_iff_lt, implies_true, q_ite_t, q_ite_f, beq_iff_eq, bne_iff_ne, q_ne, Nat.reduceAdd, Nat.reducePow, Int.reducePow, Nat.reduceMul, Nat.reduceSub, Nat.reduceLeDiff, Nat.reduceLT, Nat.reduceEqDiff, Int.reduceNeg, Int.reduceLT, Int.reduceLE, Int.reduceEq, Int.reduceNe, Int.reduceAdd, Int.reduceSub, Int.reduceMul, Int.reduceToNat, Int.reduceBEq, Int.reduceBNe, df5, T6, awake6G, encG, decG, rightG, capWG, sameG, cap2F, capF, hd, hw, Cap.cl, capZ, put, fillP, cap_eta, c1, c2, c3]
      exact hS
  · exact hS.elim
end Go.Proofs.Ythegocjfnjfkdaa

/- Caps: what was written is read. -/
namespace Go.Proofs.Ythegocjfnjfkdaa
open Go.D
set_option linter.all false
set_option maxRecDepth 100000
set_option maxHeartbeats 4000000

theorem Cap.ext' {c d : Cap} (h1 : c.ty = d.ty) (h2 : c.obj = d.obj) (h3 : c.bits = d.bits) (h4 : c.mark = d.mark) (h5 : c.guard = d.guard) (h6 : c.gbits = d.gbits) (h7 : c.badge = d.badge) (h8 : c.rights = d.rights) (h9 : c.asid = d.asid) (ha : c.vaddr = d.vaddr) (hb : c.line = d.line) : c = d := by
  cases c; cases d; simp_all
theorem enc_back {c : Cap} (h : rightB c = true) : u64 c.w0 ∧ u64 c.num ∧ decB c.w0 c.num = true ∧ decC c.w0 c.num = c := by
  obtain ⟨h1, h2, h3, h4, h5, h6, h7, h8, h9, h10, h11, one⟩ := right_bounds h
  have t0 : c.w0 % 16 = c.ty := by simp only [Cap.w0]; omega
  have e : decC c.w0 c.num = c := by
    apply Cap.ext'
    · exact t0
    · simp only [decC, Cap.w0]; omega
    · simp only [decC, Cap.w0]; omega
    · simp only [decC, t0, Cap.num]
      split at one
      · simp [*]
      · split at one
        · rename_i x; rcases x with x | x <;> simp [x, one]
        · split at one
          · rename_i x; rcases x with x | x <;> simp [x, one]
          · rename_i x y z; rw [if_neg (by omega)]; omega
    · simp only [decC, t0, Cap.num]
      split at one
      · rename_i x; rw [if_pos x]; omega
      · rename_i x; rw [if_neg x]
        split at one
        · omega
        · split at one <;> omega
    · simp only [decC, Cap.w0]; omega
    · simp only [decC, t0, Cap.num]
      split at one
      · rename_i x; rw [if_neg (by omega)]; omega
      · split at one
        · rename_i x; rw [if_pos x]; omega
        · rename_i x; rw [if_neg x]; split at one <;> omega
    · simp only [decC, Cap.w0]; omega
    · simp only [decC, Cap.w0]; omega
    · simp only [decC, t0, Cap.num]
      split at one
      · rw [if_neg (by omega)]; omega
      · split at one
        · rw [if_neg (by omega)]; omega
        · split at one
          · rename_i x; rw [if_pos x]; omega
          · rename_i x; rw [if_neg x]; omega
    · simp only [decC, Cap.w0]; omega
  refine ⟨by simp only [u64, Cap.w0]; omega, by simp only [u64, Cap.num]; omega, ?_, e⟩
  simp only [decB, e, h, Bool.and_true, Bool.and_eq_true, decide_eq_true_eq]
  constructor
  · simp only [Cap.w0]; omega
  · simp only [Cap.num]; omega
end Go.Proofs.Ythegocjfnjfkdaa

/- The machine's memory: how it stands among the blocks. -/
namespace Go.Proofs.Ythegocjfnjfkdaa
open Go.D
set_option linter.all false
set_option maxRecDepth 100000
set_option maxHeartbeats 4000000

/-- A word of any number. -/
def uw (x : Int) : Int := x % 18446744073709551616
theorem uw_u (x : Int) : u64 (uw x) := by simp only [u64, uw]; omega
theorem uw_of {x : Int} (h : u64 x) : uw x = x := by simp only [u64, uw] at *; omega
theorem u64_0 : u64 0 := by simp only [u64]; omega

structure M where
  w : List Int
  n : Int
  u : ∀ x, x ∈ w → u64 x
  l : w.length ≤ 65536
theorem M.ext' {m k : M} (h1 : m.w = k.w) (h2 : m.n = k.n) : m = k := by
  cases m; cases k; simp only at h1 h2; subst h1; subst h2; rfl

def wc (w : List Int) : List S := w.map (S.i .u64)
theorem wc_len (w : List Int) : (wc w).length = w.length := by simp [wc]
theorem wc_get {w : List Int} {i : Nat} (h : i < w.length) : (wc w)[i]? = some (.i .u64 (nth 0 w i)) := by
  simp only [wc, List.getElem?_map, nth_get (d := 0) h, Option.map_some]
theorem wc_set (w : List Int) (i : Nat) (x : Int) : (wc w).set i (.i .u64 x) = wc (w.set i x) := by simp [wc, List.map_set]
theorem wc_all {p : S → Bool} (hp : ∀ x, p (.i .u64 x) = true) (w : List Int) : (wc w).all p = true := by simp [wc, hp]
theorem wc_known (w : List Int) : known (wc w) = true := by unfold known; exact wc_all (fun _ => rfl) w
theorem wc_vals (n k : Nat) (w : List Int) : vals n k (wc w) = true := by unfold vals; exact wc_all (fun _ => rfl) w
theorem wc_below (n : Nat) (w : List Int) : (wc w).all (S.below n) = true := wc_all (fun _ => rfl) w
theorem wc_takes (r : R) (n k : Nat) (w : List Int) : (wc w).all (r.takes n k) = true := wc_all (fun _ => by cases r <;> rfl) w
theorem wc_names (k : Nat) (w : List Int) : (wc w).all (fun s => !s.names k) = true := wc_all (fun _ => rfl) w
theorem wc_kept (k : List Nat) (w : List Int) : (wc w).all (S.kept k) = true := wc_all (fun _ => rfl) w
theorem wc_sub (w : List Int) (a k : Nat) : sub (wc w) a k = wc ((w.drop a).take k) := by simp [wc, sub, List.map_take, List.map_drop]
theorem wc_app (v w : List Int) : wc v ++ wc w = wc (v ++ w) := by simp [wc]
theorem wc_nil : wc [] = [] := rfl
theorem wc_cons (x : Int) (w : List Int) : wc (x :: w) = .i .u64 x :: wc w := rfl
theorem wc_inj {v w : List Int} (h : wc v = wc w) : v = w := by
  induction v generalizing w with
  | nil => cases w with
    | nil => rfl
    | cons y w => simp [wc] at h
  | cons x v ih => cases w with
    | nil => simp [wc] at h
    | cons y w =>
      simp only [wc, List.map_cons, List.cons.injEq, S.i.injEq, true_and] at h
      rw [h.1, ih h.2]
theorem wc_ren (ρ : R → R) (w : List Int) : (wc w).map (S.ren ρ) = wc w := by simp [wc, Function.comp_def, S.ren]
theorem wc_zeros (n : Nat) : zeros [.i .u64 0] n = wc (List.replicate n 0) := by
  induction n with
  | zero => rfl
  | succ n ih => simp only [zeros, ih, List.replicate_succ, wc_cons, List.cons_append, List.nil_append]
theorem wc_map (w : List Int) : w.map (S.i .u64) = wc w := rfl

def M.at (m : M) (i : Int) : Int := nth 0 m.w i.toNat
theorem nth_mem {α : Type} {d : α} {l : List α} {i : Nat} (h : i < l.length) : nth d l i ∈ l := by rw [nth_eq h]; exact List.getElem_mem h
theorem nth_out {α : Type} {d : α} : ∀ {l : List α} {i : Nat}, l.length ≤ i → nth d l i = d
  | [], _, _ => rfl
  | _ :: _, 0, h => by simp at h
  | _ :: l, i + 1, h => nth_out (l := l) (by simpa using h)
theorem M.at_u (m : M) (i : Int) : u64 (m.at i) := by
  unfold M.at
  rcases Nat.lt_or_ge i.toNat m.w.length with h | h
  · exact m.u _ (nth_mem h)
  · rw [nth_out h]; exact u64_0

def M.put (m : M) (i : Nat) (x : Int) : M := ⟨m.w.set i (uw x), m.n, fun y hy => by
  rcases List.mem_or_eq_of_mem_set hy with h | h
  · exact m.u y h
  · subst h; exact uw_u x, by simpa using m.l⟩
def M.tick (m : M) (k : Int) : M := ⟨m.w, IntKind.i64.wrap (m.n + k), m.u, m.l⟩
def M.fill (m : M) (a : Nat) (x : Int) : Nat → M
  | 0 => m
  | k + 1 => (M.fill m a x k).put (a + k) x
def M.lay (m : M) (o : Nat) : List Int → M
  | [] => m
  | v :: vs => M.lay (m.put o v) (o + 1) vs
/-- Is a range there? -/
def M.has (m : M) (a k : Int) : Bool := decide (0 ≤ a ∧ 0 ≤ k ∧ a ≤ m.w.length ∧ k ≤ m.w.length - a)
theorem M.has_iff {m : M} {a k : Int} : m.has a k = true ↔ 0 ≤ a ∧ 0 ≤ k ∧ a ≤ m.w.length ∧ k ≤ m.w.length - a := by simp [M.has]
theorem M.has_nat {m : M} {a k : Int} (h : m.has a k = true) : ∃ i j : Nat, a = i ∧ k = j ∧ i + j ≤ m.w.length := by
  rw [M.has_iff] at h
  exact ⟨a.toNat, k.toNat, by omega, by omega, by omega⟩
theorem M.has_not {m : M} {a k : Int} (h : m.has a k = false) : ¬ (0 ≤ a ∧ 0 ≤ k ∧ a ≤ m.w.length ∧ k ≤ m.w.length - a) := by simpa [M.has] using h

theorem M.put_len (m : M) (i : Nat) (x : Int) : (m.put i x).w.length = m.w.length := by simp [M.put]
theorem M.tick_len (m : M) (k : Int) : (m.tick k).w.length = m.w.length := rfl
theorem M.fill_len (m : M) (a : Nat) (x : Int) : ∀ k, (m.fill a x k).w.length = m.w.length
  | 0 => rfl
  | k + 1 => by rw [M.fill, M.put_len, M.fill_len m a x k]
theorem M.lay_len : ∀ (vs : List Int) (m : M) (o : Nat), (m.lay o vs).w.length = m.w.length
  | [], _, _ => rfl
  | v :: vs, m, o => by rw [M.lay, M.lay_len vs, M.put_len]
theorem M.put_has (m : M) (i : Nat) (x a k : Int) : (m.put i x).has a k = m.has a k := by simp only [M.has, M.put_len]
theorem M.tick_has (m : M) (j a k : Int) : (m.tick j).has a k = m.has a k := rfl
theorem M.fill_has (m : M) (o : Nat) (x : Int) (j : Nat) (a k : Int) : (m.fill o x j).has a k = m.has a k := by simp only [M.has, M.fill_len]
theorem M.lay_has (m : M) (o : Nat) (vs : List Int) (a k : Int) : (m.lay o vs).has a k = m.has a k := by simp only [M.has, M.lay_len]
theorem M.put_n (m : M) (i : Nat) (x : Int) : (m.put i x).n = m.n := rfl
theorem M.fill_n (m : M) (a : Nat) (x : Int) : ∀ k, (m.fill a x k).n = m.n
  | 0 => rfl
  | k + 1 => by rw [M.fill, M.put_n, M.fill_n m a x k]
theorem M.lay_n : ∀ (vs : List Int) (m : M) (o : Nat), (m.lay o vs).n = m.n
  | [], _, _ => rfl
  | v :: vs, m, o => by rw [M.lay, M.lay_n vs, M.put_n]
theorem M.lay_snoc (v : Int) : ∀ (vs : List Int) (m : M) (o : Nat), m.lay o (vs ++ [v]) = (m.lay o vs).put (o + vs.length) v
  | [], m, o => rfl
  | u :: vs, m, o => by
    simp only [List.cons_append, M.lay, M.lay_snoc v vs, List.length_cons]
    rw [show o + 1 + vs.length = o + (vs.length + 1) by omega]
theorem M.lay_w : ∀ (vs : List Int) (m : M) (o : Nat), (∀ x, x ∈ vs → u64 x) → D.put (wc m.w) o (wc vs) = wc (m.lay o vs).w
  | [], _, _, _ => rfl
  | v :: vs, m, o, hu => by
    simp only [wc_cons, M.lay]
    rw [show D.put (wc m.w) o (S.i .u64 v :: wc vs) = D.put ((wc m.w).set o (.i .u64 v)) (o + 1) (wc vs) from rfl]
    rw [wc_set, show v = uw v from (uw_of (hu v (by simp))).symm]
    rw [show m.w.set o (uw v) = (m.put o v).w from rfl, M.lay_w vs (m.put o v) (o + 1) (fun x hx => hu x (by simp [hx]))]
    rw [← show v = uw v from (uw_of (hu v (by simp))).symm]

/-! ### among the blocks -/
def MB (b : Nat) (m : M) : Blk := ⟨.rw, [.sl (.g b) 0 m.w.length m.w.length, .i .i64 m.n], 2⟩
def MW (m : M) : Blk := ⟨.rw, wc m.w, m.w.length⟩
structure IsMem (h : List Blk) (a b : Nat) (m : M) : Prop where
  ne : a ≠ b
  ha : h[a]? = some (MB b m)
  hb : h[b]? = some (MW m)
def setM (h : List Blk) (a b : Nat) (m : M) : List Blk := (h.set a (MB b m)).set b (MW m)

theorem IsMem.lta {h : List Blk} {a b : Nat} {m : M} (H : IsMem h a b m) : a < h.length := (List.getElem?_eq_some_iff.1 H.ha).1
theorem IsMem.ltb {h : List Blk} {a b : Nat} {m : M} (H : IsMem h a b m) : b < h.length := (List.getElem?_eq_some_iff.1 H.hb).1
theorem setM_len {h : List Blk} {a b : Nat} {m : M} : (setM h a b m).length = h.length := by simp [setM]
theorem IsMem.set {h : List Blk} {a b : Nat} {m : M} (H : IsMem h a b m) (m' : M) : IsMem (setM h a b m') a b m' := by
  refine ⟨H.ne, ?_, ?_⟩
  · simp only [setM]
    rw [List.getElem?_set_ne (Ne.symm H.ne), List.getElem?_set_self H.lta]
  · simp only [setM]
    rw [List.getElem?_set_self (by simpa using H.ltb)]
theorem setM_set {h : List Blk} {a b : Nat} {m m' : M} (ne : a ≠ b) : setM (setM h a b m) a b m' = setM h a b m' := by
  simp only [setM]
  rw [List.set_comm _ _ ne, List.set_set, List.set_comm _ _ ne, List.set_set, List.set_comm _ _ (Ne.symm ne)]
theorem setM_self {h : List Blk} {a b : Nat} {m : M} (H : IsMem h a b m) : setM h a b m = h := by
  simp only [setM]
  rw [set_self H.ha, set_self H.hb]
theorem setM_fun {h : List Blk} {a b : Nat} {m m0 : M} (H : IsMem h a b m0) : setM (setM h a b m) a b = setM h a b := funext fun m' => setM_set H.ne
theorem IsMem.app {h X : List Blk} {a b : Nat} {m : M} (H : IsMem h a b m) : IsMem (h ++ X) a b m :=
  ⟨H.ne, by rw [List.getElem?_append_left H.lta]; exact H.ha, by rw [List.getElem?_append_left H.ltb]; exact H.hb⟩
theorem setM_app {h X : List Blk} {a b : Nat} {m m' : M} (H : IsMem h a b m) : setM (h ++ X) a b m' = setM h a b m' ++ X := by
  simp only [setM]
  rw [app_setl H.lta, app_setl (by simpa using H.ltb)]
theorem setM_words {h : List Blk} {a b : Nat} {m m' : M} (H : IsMem h a b m) (hl : m'.w.length = m.w.length) (hn : m'.n = m.n) : h.set b (MW m') = setM h a b m' := by
  simp only [setM]
  rw [show MB b m' = MB b m by simp only [MB, hl, hn], set_self H.ha]
theorem setM_steps {h : List Blk} {a b : Nat} {m m' : M} (H : IsMem h a b m) (hw : m'.w = m.w) : h.set a (MB b m') = setM h a b m' := by
  simp only [setM]
  rw [List.set_comm _ _ H.ne, show MW m' = MW m by simp only [MW, hw], set_self H.hb]
theorem IsMem.uniq {h : List Blk} {a b b' : Nat} {m m' : M} (H : IsMem h a b m) (H' : IsMem h a b' m') : b = b' ∧ m = m' := by
  have h1 := H.ha.symm.trans H'.ha
  simp only [MB, Option.some.injEq, Blk.mk.injEq, List.cons.injEq, S.sl.injEq, R.g.injEq, S.i.injEq, true_and, and_true] at h1
  obtain ⟨⟨e, _, _⟩, e2⟩ := h1
  subst e
  have h2 := H.hb.symm.trans H'.hb
  simp only [MW, Option.some.injEq, Blk.mk.injEq, true_and] at h2
  exact ⟨rfl, M.ext' (wc_inj h2.1) e2⟩
theorem setM_clean {h : List Blk} {a b : Nat} {m m0 : M} {n : Nat} (H : IsMem h a b m0) (hc : clean n h = true) (hn : b < n) : clean n (setM h a b m) = true := by
  refine clean_set (clean_set hc ?_) (wc_vals _ _ _)
  simp [MB, vals, S.val, R.val, hn]

open Classical in
noncomputable def memOf (h : List Blk) (a : Nat) : Option (Nat × M) := if hx : ∃ x : Nat × M, IsMem h a x.1 x.2 then some (Classical.choose hx) else none
theorem memOf_eq {h : List Blk} {a b : Nat} {m : M} (H : IsMem h a b m) : memOf h a = some (b, m) := by
  have hx : ∃ x : Nat × M, IsMem h a x.1 x.2 := ⟨(b, m), H⟩
  unfold memOf
  rw [dif_pos hx]
  have := IsMem.uniq (Classical.choose_spec hx) H
  rw [show Classical.choose hx = (b, m) from Prod.ext this.1 this.2]
theorem memOf_some {h : List Blk} {a b : Nat} {m : M} (e : memOf h a = some (b, m)) : IsMem h a b m := by
  unfold memOf at e
  split at e
  · rename_i hx
    have := Classical.choose_spec hx
    rw [Option.some.injEq] at e
    rw [e] at this
    exact this
  · cases e

/-- What is done with a memory, its first argument. -/
noncomputable def memF (f : Nat → M → (M → List Blk) → List V → Res) : List V → List Blk → Res
  | .s (.p (.g a) 0) :: rest, h => match memOf h a with
    | some (b, m) => f b m (setM h a b) rest
    | none => .bad
  | _, _ => .bad
theorem memF_spec {f : Nat → M → (M → List Blk) → List V → Res} {args : List V} {h : List Blk} {K : V → List Blk → Prop} (hS : (memF f args h).spec K) :
    ∃ a b m rest, args = .s (.p (.g a) 0) :: rest ∧ IsMem h a b m ∧ (f b m (setM h a b) rest).spec K := by
  unfold memF at hS
  split at hS
  · split at hS
    · rename_i e
      exact ⟨_, _, _, _, rfl, memOf_some e, hS⟩
    · exact hS.elim
  · exact hS.elim
theorem memF_eq {f : Nat → M → (M → List Blk) → List V → Res} {h : List Blk} {a b : Nat} {m : M} {rest : List V} (H : IsMem h a b m) : memF f (.s (.p (.g a) 0) :: rest) h = f b m (setM h a b) rest := by
  simp only [memF, memOf_eq H]
theorem memF_set {f : Nat → M → (M → List Blk) → List V → Res} {h : List Blk} {a b : Nat} {m m' : M} {rest : List V} (H : IsMem h a b m) : memF f (.s (.p (.g a) 0) :: rest) (setM h a b m') = f b m' (setM h a b) rest := by
  rw [memF_eq (H.set m'), setM_fun H]
theorem memF_app {f : Nat → M → (M → List Blk) → List V → Res} {h X : List Blk} {a b : Nat} {m m' : M} {rest : List V} (H : IsMem h a b m) : memF f (.s (.p (.g a) 0) :: rest) (setM h a b m' ++ X) = f b m' (fun m => setM h a b m ++ X) rest := by
  rw [memF_eq ((H.set m').app), show setM (setM h a b m' ++ X) a b = fun m => setM h a b m ++ X from funext fun k => by rw [setM_app (H.set m'), setM_set H.ne]]
theorem memF_app0 {f : Nat → M → (M → List Blk) → List V → Res} {h X : List Blk} {a b : Nat} {m : M} {rest : List V} (H : IsMem h a b m) : memF f (.s (.p (.g a) 0) :: rest) (h ++ X) = f b m (fun m => setM h a b m ++ X) rest := by
  rw [memF_eq H.app, show setM (h ++ X) a b = fun m => setM h a b m ++ X from funext fun k => by rw [setM_app H]]

/-! ### new memories -/
def memH (h : List Blk) (m : M) : List Blk := h ++ [MB (h.length + 1) m, MW m]
theorem memH_len {h : List Blk} {m : M} : (memH h m).length = h.length + 2 := by simp [memH]
theorem memH_is (h : List Blk) (m : M) : IsMem (memH h m) h.length (h.length + 1) m := by
  refine ⟨by omega, ?_, ?_⟩
  · simp only [memH]; rw [app_get0]; rfl
  · simp only [memH]; rw [app_getn]; rfl
theorem memH_set (h : List Blk) (m m' : M) : setM (memH h m) h.length (h.length + 1) m' = memH h m' := by
  simp only [memH, setM]
  rw [app_set0, app_setn]; rfl
theorem memH_fun (h : List Blk) (m : M) : setM (memH h m) h.length (h.length + 1) = memH h := funext (memH_set h m)
theorem memF_new {f : Nat → M → (M → List Blk) → List V → Res} {h : List Blk} {m : M} {rest : List V} : memF f (.s (.p (.g h.length) 0) :: rest) (memH h m) = f (h.length + 1) m (memH h) rest := by
  rw [memF_eq (memH_is h m), memH_fun]
theorem memH_is1 (h : List Blk) (m k : M) : IsMem (memH (memH h m) k) h.length (h.length + 1) m := (memH_is h m).app
theorem memH_is2 (h : List Blk) (m k : M) : IsMem (memH (memH h m) k) (h.length + 2) (h.length + 3) k := by
  have := memH_is (memH h m) k
  rw [memH_len] at this
  exact this
theorem memH_set1 (h : List Blk) (m k m' : M) : setM (memH (memH h m) k) h.length (h.length + 1) m' = memH (memH h m') k := by
  show setM (memH h m ++ [MB ((memH h m).length + 1) k, MW k]) _ _ _ = _
  rw [setM_app (memH_is h m), memH_set]
  simp [memH]
theorem memH_set2 (h : List Blk) (m k m' : M) : setM (memH (memH h m) k) (h.length + 2) (h.length + 3) m' = memH (memH h m) m' := by
  have := memH_set (memH h m) k m'
  rw [memH_len] at this
  exact this
theorem memF_new1 {f : Nat → M → (M → List Blk) → List V → Res} {h : List Blk} {m k : M} {rest : List V} : memF f (.s (.p (.g h.length) 0) :: rest) (memH (memH h m) k) = f (h.length + 1) m (fun m => memH (memH h m) k) rest := by
  rw [memF_eq (memH_is1 h m k), show setM (memH (memH h m) k) h.length (h.length + 1) = fun m => memH (memH h m) k from funext (memH_set1 h m k)]
theorem memF_new2 {f : Nat → M → (M → List Blk) → List V → Res} {h : List Blk} {m k : M} {rest : List V} : memF f (.s (.p (.g (h.length + 2)) 0) :: rest) (memH (memH h m) k) = f (h.length + 3) k (memH (memH h m)) rest := by
  rw [memF_eq (memH_is2 h m k), show setM (memH (memH h m) k) (h.length + 2) (h.length + 3) = memH (memH h m) from funext (memH_set2 h m k)]
end Go.Proofs.Ythegocjfnjfkdaa

/- The machine's memory: what its functions do. -/
namespace Go.Proofs.Ythegocjfnjfkdaa
open Go.D
set_option linter.all false
set_option maxRecDepth 100000
set_option maxHeartbeats 4000000

theorem pow16 (k : Nat) : 2 ^ min k 16 ≤ 65536 := by
  have : min k 16 ≤ 16 := by omega
  exact Nat.pow_le_pow_right (n := 2) (by omega) this
def M.zero (k : Nat) : M := ⟨List.replicate (2 ^ min k 16) 0, 0, fun x hx => by rw [List.eq_of_mem_replicate hx]; exact u64_0, by simpa using pow16 k⟩
theorem M.zero_len (k : Nat) : (M.zero k).w.length = 2 ^ min k 16 := by simp [M.zero]

def newM : List V → List Blk → Res
  | [.s (.i .i64 b)], h => .br (decide (11 ≤ b) && decide (b ≤ 16)) (.ok (.tup [.s (.p (.g h.length) 0), .s (.i .i64 0)]) [] (memH h (M.zero b.toNat))) (.ok (.tup [.s .np, .s (.i .i64 1)]) [] h)
  | _, _ => .bad
theorem new_snd : Snd Try.prog 39 (FSpec.of newM) := snd_run (noT_snd _) mixed Try.func39 dc39 100 fun args h K hc hS => by
  unfold newM at hS
  split at hS
  · rename_i b
    simp only [spec_br, spec_ok, Bool.and_eq_true, decide_eq_true_eq] at hS
    by_cases c1 : b < 11
    · simp (config := { maxSteps := 10000000 }) only [EV1, EV2, EV3, EV4, EV5, EV6, addT, istep, pickR, putD, bin1R, un1R, slcR, bnd, capsOf, fillP, V.plain, V.cells, V.known, C.v, blk, setL, setH, eqS, eq1, cmpS, cmp1, isNil, popTo, killT, setT, leT, V.below, S.below, R.below, V.val, C.val, S.val, R.val, R.takes, vals, shows, unnamed, V.kill, V.names, C.names, S.names, R.names, List.set, List.replicate, ↓q_cond_t, ↓q_cond_f, if_true, if_false, reduceCtorEq, rvals, rvC, result, C.known, V.noL, C.noL, S.noL, R.noL, Option.map, true_and, and_true, ge_iff_le, gt_iff_lt, implies_true, q_ite_t, q_ite_f, beq_iff_eq, bne_iff_ne, q_ne, Nat.reduceAdd, Nat.reducePow, Int.reducePow, Nat.reduceMul, Nat.reduceSub, Nat.reduceLeDiff, Nat.reduceLT, Nat.reduceEqDiff, Int.reduceNeg, Int.reduceLT, Int.reduceLE, Int.reduceEq, Int.reduceNe, Int.reduceAdd, Int.reduceSub, Int.reduceMul, Int.reduceToNat, Int.reduceBEq, Int.reduceBNe, df39, c1]
      exact hS.2 (by simp; omega)
    by_cases c2 : 16 < b
    · simp (config := { maxSteps := 10000000 }) only [EV1, EV2, EV3, EV4, EV5, EV6, addT, istep, pickR, putD, bin1R, un1R, slcR, bnd, capsOf, fillP, V.plain, V.cells, V.known, C.v, blk, setL, setH, eqS, eq1, cmpS, cmp1, isNil, popTo, killT, setT, leT, V.below, S.below, R.below, V.val, C.val, S.val, R.val, R.takes, vals, shows, unnamed, V.kill, V.names, C.names, S.names, R.names, List.set, List.replicate, ↓q_cond_t, ↓q_cond_f, if_true, if_false, reduceCtorEq, rvals, rvC, result, C.known, V.noL, C.noL, S.noL, R.noL, Option.map, true_and, and_true, ge_iff_le, gt_iff_lt, implies_true, q_ite_t, q_ite_f, beq_iff_eq, bne_iff_ne, q_ne, Nat.reduceAdd, Nat.reducePow, Int.reducePow, Nat.reduceMul, Nat.reduceSub, Nat.reduceLeDiff, Nat.reduceLT, Nat.reduceEqDiff, Int.reduceNeg, Int.reduceLT, Int.reduceLE, Int.reduceEq, Int.reduceNe, Int.reduceAdd, Int.reduceSub, Int.reduceMul, Int.reduceToNat, Int.reduceBEq, Int.reduceBNe, df39, c1, c2]
      exact hS.2 (by simp; omega)
    have hS := hS.1 (by omega)
    obtain ⟨k, rfl⟩ : ∃ k : Nat, b = k := ⟨b.toNat, by omega⟩
    have hk : min k 16 = k := by omega
    have m1 : min k IntKind.i64.bits = k := by show min k 64 = _; omega
    have p1 := pow16 k
    rw [hk] at p1
    obtain ⟨p, hp⟩ : ∃ p : Nat, 2 ^ k = p := ⟨_, rfl⟩
    rw [hp] at p1
    have c3 : (0 : Int) ≤ k := by omega
    have w1 : IntKind.i64.wrap (1 * 2 ^ k) = (p : Int) := by
      rw [Int.one_mul, show (2 : Int) ^ k = (p : Int) by rw [← hp]; simp, wrap64] <;> omega
    have c4 : (0 : Int) ≤ (p : Int) := by omega
    have c5 : (p : Int) ≤ 1099511627776 := by omega
    have c6 : (8 : Int) * (p : Int) ≤ 281474976710656 := by omega
    simp (config := { maxSteps := 10000000 }) only [EV1, EV2, EV3, EV4, EV5, EV6, addT, istep, pickR, putD, bin1R, un1R, slcR, bnd, capsOf, fillP, V.plain, V.cells, V.known, C.v, blk, setL, setH, eqS, eq1, cmpS, cmp1, isNil, popTo, killT, setT, leT, V.below, S.below, R.below, V.val, C.val, S.val, R.val, R.takes, vals, shows, unnamed, V.kill, V.names, C.names, S.names, R.names, List.set, List.replicate, ↓q_cond_t, ↓q_cond_f, if_true, if_false, reduceCtorEq, rvals, rvC, result, C.known, V.noL, C.noL, S.noL, R.noL, Option.map, true_and, and_true, ge_iff_le, gt_iff_lt, implies_true, q_ite_t, q_ite_f, beq_iff_eq, bne_iff_ne, q_ne, Nat.reduceAdd, Nat.reducePow, Int.reducePow, Nat.reduceMul, Nat.reduceSub, Nat.reduceLeDiff, Nat.reduceLT, Nat.reduceEqDiff, Int.reduceNeg, Int.reduceLT, Int.reduceLE, Int.reduceEq, Int.reduceNe, Int.reduceAdd, Int.reduceSub, Int.reduceMul, Int.reduceToNat, Int.reduceBEq, Int.reduceBNe, df39, c1, c2, c3, m1, w1, c4, Int.le_refl, c5, c6, wc_zeros, put, fillP]
    refine ⟨[1, 0], by simp, rfl, ?_⟩
    simp only [getAll, List.getElem?_cons_zero, List.getElem?_cons_succ]
    refine ⟨?_, ?_⟩
    · simp [S.kept, R.kept, wc_kept]
    · refine cast (congrArg (K _) ?_) hS
      simp [memH, MB, MW, M.zero, hk, hp, Blk.ren, S.ren, R.prom, List.idxOf, List.findIdx, List.findIdx.go, wc_ren, wc_len, V.ren, C.ren, wc_map]
  · exact hS.elim
theorem rnew_snd : Snd Try.prog 75 (FSpec.of newM) := snd_run (noT_snd _) mixed Try.func75 dc75 100 fun args h K hc hS => by
  unfold newM at hS
  split at hS
  · rename_i b
    simp only [spec_br, spec_ok, Bool.and_eq_true, decide_eq_true_eq] at hS
    by_cases c1 : b < 11
    · simp (config := { maxSteps := 10000000 }) only [EV1, EV2, EV3, EV4, EV5, EV6, addT, istep, pickR, putD, bin1R, un1R, slcR, bnd, capsOf, fillP, V.plain, V.cells, V.known, C.v, blk, setL, setH, eqS, eq1, cmpS, cmp1, isNil, popTo, killT, setT, leT, V.below, S.below, R.below, V.val, C.val, S.val, R.val, R.takes, vals, shows, unnamed, V.kill, V.names, C.names, S.names, R.names, List.set, List.replicate, ↓q_cond_t, ↓q_cond_f, if_true, if_false, reduceCtorEq, rvals, rvC, result, C.known, V.noL, C.noL, S.noL, R.noL, Option.map, true_and, and_true, ge_iff_le, gt_iff_lt, implies_true, q_ite_t, q_ite_f, beq_iff_eq, bne_iff_ne, q_ne, Nat.reduceAdd, Nat.reducePow, Int.reducePow, Nat.reduceMul, Nat.reduceSub, Nat.reduceLeDiff, Nat.reduceLT, Nat.reduceEqDiff, Int.reduceNeg, Int.reduceLT, Int.reduceLE, Int.reduceEq, Int.reduceNe, Int.reduceAdd, Int.reduceSub, Int.reduceMul, Int.reduceToNat, Int.reduceBEq, Int.reduceBNe, df75, c1]
      exact hS.2 (by simp; omega)
    by_cases c2 : 16 < b
    · simp (config := { maxSteps := 10000000 }) only [EV1, EV2, EV3, EV4, EV5, EV6, addT, istep, pickR, putD, bin1R, un1R, slcR, bnd, capsOf, fillP, V.plain, V.cells, V.known, C.v, blk, setL, setH, eqS, eq1, cmpS, cmp1, isNil, popTo, killT, setT, leT, V.below, S.below, R.below, V.val, C.val, S.val, R.val, R.takes, vals, shows, unnamed, V.kill, V.names, C.names, S.names, R.names, List.set, List.replicate, ↓q_cond_t, ↓q_cond_f, if_true, if_false, reduceCtorEq, rvals, rvC, result, C.known, V.noL, C.noL, S.noL, R.noL, Option.map, true_and, and_true, ge_iff_le, gt_iff_lt, implies_true, q_ite_t, q_ite_f, beq_iff_eq, bne_iff_ne, q_ne, Nat.reduceAdd, Nat.reducePow, Int.reducePow, Nat.reduceMul, Nat.reduceSub, Nat.reduceLeDiff, Nat.reduceLT, Nat.reduceEqDiff, Int.reduceNeg, Int.reduceLT, Int.reduceLE, Int.reduceEq, Int.reduceNe, Int.reduceAdd, Int.reduceSub, Int.reduceMul, Int.reduceToNat, Int.reduceBEq, Int.reduceBNe, df75, c1, c2]
      exact hS.2 (by simp; omega)
    have hS := hS.1 (by omega)
    obtain ⟨k, rfl⟩ : ∃ k : Nat, b = k := ⟨b.toNat, by omega⟩
    have hk : min k 16 = k := by omega
    have m1 : min k IntKind.i64.bits = k := by show min k 64 = _; omega
    have p1 := pow16 k
    rw [hk] at p1
    obtain ⟨p, hp⟩ : ∃ p : Nat, 2 ^ k = p := ⟨_, rfl⟩
    rw [hp] at p1
    have c3 : (0 : Int) ≤ k := by omega
    have w1 : IntKind.i64.wrap (1 * 2 ^ k) = (p : Int) := by
      rw [Int.one_mul, show (2 : Int) ^ k = (p : Int) by rw [← hp]; simp, wrap64] <;> omega
    have c4 : (0 : Int) ≤ (p : Int) := by omega
    have c5 : (p : Int) ≤ 1099511627776 := by omega
    have c6 : (8 : Int) * (p : Int) ≤ 281474976710656 := by omega
    simp (config := { maxSteps := 10000000 }) only [EV1, EV2, EV3, EV4, EV5, EV6, addT, istep, pickR, putD, bin1R, un1R, slcR, bnd, capsOf, fillP, V.plain, V.cells, V.known, C.v, blk, setL, setH, eqS, eq1, cmpS, cmp1, isNil, popTo, killT, setT, leT, V.below, S.below, R.below, V.val, C.val, S.val, R.val, R.takes, vals, shows, unnamed, V.kill, V.names, C.names, S.names, R.names, List.set, List.replicate, ↓q_cond_t, ↓q_cond_f, if_true, if_false, reduceCtorEq, rvals, rvC, result, C.known, V.noL, C.noL, S.noL, R.noL, Option.map, true_and, and_true, ge_iff_le, gt_iff_lt, implies_true, q_ite_t, q_ite_f, beq_iff_eq, bne_iff_ne, q_ne, Nat.reduceAdd, Nat.reducePow, Int.reducePow, Nat.reduceMul, Nat.reduceSub, Nat.reduceLeDiff, Nat.reduceLT, Nat.reduceEqDiff, Int.reduceNeg, Int.reduceLT, Int.reduceLE, Int.reduceEq, Int.reduceNe, Int.reduceAdd, Int.reduceSub, Int.reduceMul, Int.reduceToNat, Int.reduceBEq, Int.reduceBNe, df75, c1, c2, c3, m1, w1, c4, Int.le_refl, c5, c6, wc_zeros, put, fillP]
    refine ⟨[1, 0], by simp, rfl, ?_⟩
    simp only [getAll, List.getElem?_cons_zero, List.getElem?_cons_succ]
    refine ⟨?_, ?_⟩
    · simp [S.kept, R.kept, wc_kept]
    · refine cast (congrArg (K _) ?_) hS
      simp [memH, MB, MW, M.zero, hk, hp, Blk.ren, S.ren, R.prom, List.idxOf, List.findIdx, List.findIdx.go, wc_ren, wc_len, V.ren, C.ren, wc_map]
  · exact hS.elim
def wordsM (b : Nat) (m : M) (st : M → List Blk) : List V → Res
  | [] => .ok (.s (.i .i64 m.w.length)) [] (st m)
  | _ => .bad
noncomputable def wordsG := memF wordsM
theorem mwords_snd : Snd Try.prog 90 (FSpec.of wordsG) := snd_run (noT_snd _) mixed Try.func90 dc90 100 fun args h K hc hS => by
  obtain ⟨a, b, m, rest, rfl, H, hS1⟩ := memF_spec hS
  clear hS
  have hS := hS1
  clear hS1
  unfold wordsM at hS
  split at hS
  · simp only [spec_ok, setM_self H] at hS
    simp (config := { maxSteps := 10000000 }) only [EV1, EV2, EV3, EV4, EV5, EV6, addT, istep, pickR, putD, bin1R, un1R, slcR, bnd, capsOf, fillP, V.plain, V.cells, V.known, C.v, blk, setL, setH, eqS, eq1, cmpS, cmp1, isNil, popTo, killT, setT, leT, V.below, S.below, R.below, V.val, C.val, S.val, R.val, R.takes, vals, shows, unnamed, V.kill, V.names, C.names, S.names, R.names, List.set, List.replicate, ↓q_cond_t, ↓q_cond_f, if_true, if_false, reduceCtorEq, rvals, rvC, result, C.known, V.noL, C.noL, S.noL, R.noL, Option.map, true_and, and_true, ge_iff_le, gt_iff_lt, implies_true, q_ite_t, q_ite_f, beq_iff_eq, bne_iff_ne, q_ne, Nat.reduceAdd, Nat.reducePow, Int.reducePow, Nat.reduceMul, Nat.reduceSub, Nat.reduceLeDiff, Nat.reduceLT, Nat.reduceEqDiff, Int.reduceNeg, Int.reduceLT, Int.reduceLE, Int.reduceEq, Int.reduceNe, Int.reduceAdd, Int.reduceSub, Int.reduceMul, Int.reduceToNat, Int.reduceBEq, Int.reduceBNe, df90, H.ha, MB]
    exact hS
  · exact hS.elim

def stepsM (b : Nat) (m : M) (st : M → List Blk) : List V → Res
  | [] => .ok (.s (.i .i64 m.n)) [] (st m)
  | _ => .bad
noncomputable def stepsG := memF stepsM
theorem msteps_snd : Snd Try.prog 78 (FSpec.of stepsG) := snd_run (noT_snd _) mixed Try.func78 dc78 100 fun args h K hc hS => by
  obtain ⟨a, b, m, rest, rfl, H, hS1⟩ := memF_spec hS
  clear hS
  have hS := hS1
  clear hS1
  unfold stepsM at hS
  split at hS
  · simp only [spec_ok, setM_self H] at hS
    simp (config := { maxSteps := 10000000 }) only [EV1, EV2, EV3, EV4, EV5, EV6, addT, istep, pickR, putD, bin1R, un1R, slcR, bnd, capsOf, fillP, V.plain, V.cells, V.known, C.v, blk, setL, setH, eqS, eq1, cmpS, cmp1, isNil, popTo, killT, setT, leT, V.below, S.below, R.below, V.val, C.val, S.val, R.val, R.takes, vals, shows, unnamed, V.kill, V.names, C.names, S.names, R.names, List.set, List.replicate, ↓q_cond_t, ↓q_cond_f, if_true, if_false, reduceCtorEq, rvals, rvC, result, C.known, V.noL, C.noL, S.noL, R.noL, Option.map, true_and, and_true, ge_iff_le, gt_iff_lt, implies_true, q_ite_t, q_ite_f, beq_iff_eq, bne_iff_ne, q_ne, Nat.reduceAdd, Nat.reducePow, Int.reducePow, Nat.reduceMul, Nat.reduceSub, Nat.reduceLeDiff, Nat.reduceLT, Nat.reduceEqDiff, Int.reduceNeg, Int.reduceLT, Int.reduceLE, Int.reduceEq, Int.reduceNe, Int.reduceAdd, Int.reduceSub, Int.reduceMul, Int.reduceToNat, Int.reduceBEq, Int.reduceBNe, df78, H.ha, MB]
    exact hS
  · exact hS.elim

/-- Where a part of the words begins. -/
def offM (m : M) (a : Nat) : Nat := if m.w.length = a then 0 else a
def spanM (b : Nat) (m : M) (st : M → List Blk) : List V → Res
  | [.s (.i .i64 a), .s (.i .i64 k)] => .br (m.has a k) (.ok (.tup [.s (.sl (.g b) (if m.w.length = a.toNat then 0 else a.toNat) k.toNat (m.w.length - a.toNat)), .s (.b true)]) [] (st m)) (.ok (.tup [.s .ns, .s (.b false)]) [] (st m))
  | _ => .bad
noncomputable def spanG := memF spanM
theorem span_snd : Snd Try.prog 69 (FSpec.of spanG) := snd_run (noT_snd _) mixed Try.func69 dc69 100 fun args h K hc hS => by
  obtain ⟨a, b, m, rest, rfl, H, hS1⟩ := memF_spec hS
  clear hS
  have hS := hS1
  clear hS1
  unfold spanM at hS
  split at hS
  · rename_i x k
    simp only [spec_ok, spec_br, setM_self H] at hS
    have hl := m.l
    cases hh : m.has x k with
    | true =>
      have hS := hS.1 hh
      obtain ⟨i, j, rfl, rfl, hij⟩ := M.has_nat hh
      have c1 : ¬ ((i : Int) < 0) := by omega
      have c2 : ¬ ((j : Int) < 0) := by omega
      have c3 : ¬ ((m.w.length : Int) < i) := by omega
      have w1 : IntKind.i64.wrap ((m.w.length : Int) - i) = m.w.length - i := wrap64 (by omega) (by omega)
      have c4 : ¬ ((m.w.length : Int) - i < j) := by omega
      have w2 : IntKind.i64.wrap ((i : Int) + j) = ((i + j : Nat) : Int) := by rw [wrap64] <;> omega
      have c5 : (0 : Int) ≤ i := by omega
      have c6 : (i : Int) ≤ ((i + j : Nat) : Int) := by omega
      have c7 : ((i + j : Nat) : Int) ≤ m.w.length := by omega
      have e1 : i + j - i = j := by omega
      have c8 : 0 ≤ (i : Int) ∧ (i : Int) ≤ ((i + j : Nat) : Int) ∧ ((i + j : Nat) : Int) ≤ m.w.length := by omega
      simp (config := { maxSteps := 10000000 }) only [EV1, EV2, EV3, EV4, EV5, EV6, addT, istep, pickR, putD, bin1R, un1R, slcR, bnd, capsOf, fillP, V.plain, V.cells, V.known, C.v, blk, setL, setH, eqS, eq1, cmpS, cmp1, isNil, popTo, killT, setT, leT, V.below, S.below, R.below, V.val, C.val, S.val, R.val, R.takes, vals, shows, unnamed, V.kill, V.names, C.names, S.names, R.names, List.set, List.replicate, ↓q_cond_t, ↓q_cond_f, if_true, if_false, reduceCtorEq, rvals, rvC, result, C.known, V.noL, C.noL, S.noL, R.noL, Option.map, true_and, and_true, ge_iff_le, gt_iff_lt, implies_true, q_ite_t, q_ite_f, beq_iff_eq, bne_iff_ne, q_ne, Nat.reduceAdd, Nat.reducePow, Int.reducePow, Nat.reduceMul, Nat.reduceSub, Nat.reduceLeDiff, Nat.reduceLT, Nat.reduceEqDiff, Int.reduceNeg, Int.reduceLT, Int.reduceLE, Int.reduceEq, Int.reduceNe, Int.reduceAdd, Int.reduceSub, Int.reduceMul, Int.reduceToNat, Int.reduceBEq, Int.reduceBNe, df69, H.ha, MB, c1, c2, c3, w1, c4, w2, slcR, c5, c6, c7, e1]
      exact hS
    | false =>
      have hS := hS.2 hh
      have hn := M.has_not hh
      by_cases c1 : x < 0
      · simp (config := { maxSteps := 10000000 }) only [EV1, EV2, EV3, EV4, EV5, EV6, addT, istep, pickR, putD, bin1R, un1R, slcR, bnd, capsOf, fillP, V.plain, V.cells, V.known, C.v, blk, setL, setH, eqS, eq1, cmpS, cmp1, isNil, popTo, killT, setT, leT, V.below, S.below, R.below, V.val, C.val, S.val, R.val, R.takes, vals, shows, unnamed, V.kill, V.names, C.names, S.names, R.names, List.set, List.replicate, ↓q_cond_t, ↓q_cond_f, if_true, if_false, reduceCtorEq, rvals, rvC, result, C.known, V.noL, C.noL, S.noL, R.noL, Option.map, true_and, and_true, ge_iff_le, gt_iff_lt, implies_true, q_ite_t, q_ite_f, beq_iff_eq, bne_iff_ne, q_ne, Nat.reduceAdd, Nat.reducePow, Int.reducePow, Nat.reduceMul, Nat.reduceSub, Nat.reduceLeDiff, Nat.reduceLT, Nat.reduceEqDiff, Int.reduceNeg, Int.reduceLT, Int.reduceLE, Int.reduceEq, Int.reduceNe, Int.reduceAdd, Int.reduceSub, Int.reduceMul, Int.reduceToNat, Int.reduceBEq, Int.reduceBNe, df69, c1]
        exact hS
      by_cases c2 : k < 0
      · simp (config := { maxSteps := 10000000 }) only [EV1, EV2, EV3, EV4, EV5, EV6, addT, istep, pickR, putD, bin1R, un1R, slcR, bnd, capsOf, fillP, V.plain, V.cells, V.known, C.v, blk, setL, setH, eqS, eq1, cmpS, cmp1, isNil, popTo, killT, setT, leT, V.below, S.below, R.below, V.val, C.val, S.val, R.val, R.takes, vals, shows, unnamed, V.kill, V.names, C.names, S.names, R.names, List.set, List.replicate, ↓q_cond_t, ↓q_cond_f, if_true, if_false, reduceCtorEq, rvals, rvC, result, C.known, V.noL, C.noL, S.noL, R.noL, Option.map, true_and, and_true, ge_iff_le, gt_iff_lt, implies_true, q_ite_t, q_ite_f, beq_iff_eq, bne_iff_ne, q_ne, Nat.reduceAdd, Nat.reducePow, Int.reducePow, Nat.reduceMul, Nat.reduceSub, Nat.reduceLeDiff, Nat.reduceLT, Nat.reduceEqDiff, Int.reduceNeg, Int.reduceLT, Int.reduceLE, Int.reduceEq, Int.reduceNe, Int.reduceAdd, Int.reduceSub, Int.reduceMul, Int.reduceToNat, Int.reduceBEq, Int.reduceBNe, df69, c1, c2]
        exact hS
      by_cases c3 : (m.w.length : Int) < x
      · simp (config := { maxSteps := 10000000 }) only [EV1, EV2, EV3, EV4, EV5, EV6, addT, istep, pickR, putD, bin1R, un1R, slcR, bnd, capsOf, fillP, V.plain, V.cells, V.known, C.v, blk, setL, setH, eqS, eq1, cmpS, cmp1, isNil, popTo, killT, setT, leT, V.below, S.below, R.below, V.val, C.val, S.val, R.val, R.takes, vals, shows, unnamed, V.kill, V.names, C.names, S.names, R.names, List.set, List.replicate, ↓q_cond_t, ↓q_cond_f, if_true, if_false, reduceCtorEq, rvals, rvC, result, C.known, V.noL, C.noL, S.noL, R.noL, Option.map, true_and, and_true, ge_iff_le, gt_iff_lt, implies_true, q_ite_t, q_ite_f, beq_iff_eq, bne_iff_ne, q_ne, Nat.reduceAdd, Nat.reducePow, Int.reducePow, Nat.reduceMul, Nat.reduceSub, Nat.reduceLeDiff, Nat.reduceLT, Nat.reduceEqDiff, Int.reduceNeg, Int.reduceLT, Int.reduceLE, Int.reduceEq, Int.reduceNe, Int.reduceAdd, Int.reduceSub, Int.reduceMul, Int.reduceToNat, Int.reduceBEq, Int.reduceBNe, df69, H.ha, MB, c1, c2, c3]
        exact hS
      have w1 : IntKind.i64.wrap ((m.w.length : Int) - x) = m.w.length - x := wrap64 (by omega) (by omega)
      have c4 : (m.w.length : Int) - x < k := by omega
      simp (config := { maxSteps := 10000000 }) only [EV1, EV2, EV3, EV4, EV5, EV6, addT, istep, pickR, putD, bin1R, un1R, slcR, bnd, capsOf, fillP, V.plain, V.cells, V.known, C.v, blk, setL, setH, eqS, eq1, cmpS, cmp1, isNil, popTo, killT, setT, leT, V.below, S.below, R.below, V.val, C.val, S.val, R.val, R.takes, vals, shows, unnamed, V.kill, V.names, C.names, S.names, R.names, List.set, List.replicate, ↓q_cond_t, ↓q_cond_f, if_true, if_false, reduceCtorEq, rvals, rvC, result, C.known, V.noL, C.noL, S.noL, R.noL, Option.map, true_and, and_true, ge_iff_le, gt_iff_lt, implies_true, q_ite_t, q_ite_f, beq_iff_eq, bne_iff_ne, q_ne, Nat.reduceAdd, Nat.reducePow, Int.reducePow, Nat.reduceMul, Nat.reduceSub, Nat.reduceLeDiff, Nat.reduceLT, Nat.reduceEqDiff, Int.reduceNeg, Int.reduceLT, Int.reduceLE, Int.reduceEq, Int.reduceNe, Int.reduceAdd, Int.reduceSub, Int.reduceMul, Int.reduceToNat, Int.reduceBEq, Int.reduceBNe, df69, H.ha, MB, c1, c2, c3, w1, c4]
      exact hS
  · exact hS.elim

def thereM (b : Nat) (m : M) (st : M → List Blk) : List V → Res
  | [.s (.i .i64 a), .s (.i .i64 k)] => .ok (.s (.b (m.has a k))) [] (st m)
  | _ => .bad
noncomputable def thereG := memF thereM
theorem rthere_snd : Snd Try.prog 91 (FSpec.of thereG) := snd_run (noT_snd _) mixed Try.func91 dc91 100 fun args h K hc hS => by
  obtain ⟨a, b, m, rest, rfl, H, hS1⟩ := memF_spec hS
  clear hS
  have hS := hS1
  clear hS1
  unfold thereM at hS
  split at hS
  · rename_i x k
    simp only [spec_ok, setM_self H] at hS
    have hl := m.l
    cases hh : m.has x k with
    | true =>
      rw [hh] at hS
      obtain ⟨i, j, rfl, rfl, hij⟩ := M.has_nat hh
      have w1 : IntKind.i64.wrap ((m.w.length : Int) - i) = m.w.length - i := wrap64 (by omega) (by omega)
      have c1 : (0 : Int) ≤ i := by omega
      have c2 : (0 : Int) ≤ j := by omega
      have c3 : (i : Int) ≤ m.w.length := by omega
      have c4 : (j : Int) ≤ (m.w.length : Int) - i := by omega
      simp (config := { maxSteps := 10000000 }) only [EV1, EV2, EV3, EV4, EV5, EV6, addT, istep, pickR, putD, bin1R, un1R, slcR, bnd, capsOf, fillP, V.plain, V.cells, V.known, C.v, blk, setL, setH, eqS, eq1, cmpS, cmp1, isNil, popTo, killT, setT, leT, V.below, S.below, R.below, V.val, C.val, S.val, R.val, R.takes, vals, shows, unnamed, V.kill, V.names, C.names, S.names, R.names, List.set, List.replicate, ↓q_cond_t, ↓q_cond_f, if_true, if_false, reduceCtorEq, rvals, rvC, result, C.known, V.noL, C.noL, S.noL, R.noL, Option.map, true_and, and_true, ge_iff_le, gt_iff_lt, implies_true, q_ite_t, q_ite_f, beq_iff_eq, bne_iff_ne, q_ne, Nat.reduceAdd, Nat.reducePow, Int.reducePow, Nat.reduceMul, Nat.reduceSub, Nat.reduceLeDiff, Nat.reduceLT, Nat.reduceEqDiff, Int.reduceNeg, Int.reduceLT, Int.reduceLE, Int.reduceEq, Int.reduceNe, Int.reduceAdd, Int.reduceSub, Int.reduceMul, Int.reduceToNat, Int.reduceBEq, Int.reduceBNe, df91, H.ha, MB, c1, c2, c3, w1, c4]
      exact hS
    | false =>
      rw [hh] at hS
      have hn := M.has_not hh
      by_cases c1 : 0 ≤ x
      · by_cases c2 : 0 ≤ k
        · by_cases c3 : x ≤ m.w.length
          · have w1 : IntKind.i64.wrap ((m.w.length : Int) - x) = m.w.length - x := wrap64 (by omega) (by omega)
            have c4 : ¬ (k ≤ (m.w.length : Int) - x) := by omega
            simp (config := { maxSteps := 10000000 }) only [EV1, EV2, EV3, EV4, EV5, EV6, addT, istep, pickR, putD, bin1R, un1R, slcR, bnd, capsOf, fillP, V.plain, V.cells, V.known, C.v, blk, setL, setH, eqS, eq1, cmpS, cmp1, isNil, popTo, killT, setT, leT, V.below, S.below, R.below, V.val, C.val, S.val, R.val, R.takes, vals, shows, unnamed, V.kill, V.names, C.names, S.names, R.names, List.set, List.replicate, ↓q_cond_t, ↓q_cond_f, if_true, if_false, reduceCtorEq, rvals, rvC, result, C.known, V.noL, C.noL, S.noL, R.noL, Option.map, true_and, and_true, ge_iff_le, gt_iff_lt, implies_true, q_ite_t, q_ite_f, beq_iff_eq, bne_iff_ne, q_ne, Nat.reduceAdd, Nat.reducePow, Int.reducePow, Nat.reduceMul, Nat.reduceSub, Nat.reduceLeDiff, Nat.reduceLT, Nat.reduceEqDiff, Int.reduceNeg, Int.reduceLT, Int.reduceLE, Int.reduceEq, Int.reduceNe, Int.reduceAdd, Int.reduceSub, Int.reduceMul, Int.reduceToNat, Int.reduceBEq, Int.reduceBNe, df91, H.ha, MB, c1, c2, c3, w1, c4]
            exact hS
          · simp (config := { maxSteps := 10000000 }) only [EV1, EV2, EV3, EV4, EV5, EV6, addT, istep, pickR, putD, bin1R, un1R, slcR, bnd, capsOf, fillP, V.plain, V.cells, V.known, C.v, blk, setL, setH, eqS, eq1, cmpS, cmp1, isNil, popTo, killT, setT, leT, V.below, S.below, R.below, V.val, C.val, S.val, R.val, R.takes, vals, shows, unnamed, V.kill, V.names, C.names, S.names, R.names, List.set, List.replicate, ↓q_cond_t, ↓q_cond_f, if_true, if_false, reduceCtorEq, rvals, rvC, result, C.known, V.noL, C.noL, S.noL, R.noL, Option.map, true_and, and_true, ge_iff_le, gt_iff_lt, implies_true, q_ite_t, q_ite_f, beq_iff_eq, bne_iff_ne, q_ne, Nat.reduceAdd, Nat.reducePow, Int.reducePow, Nat.reduceMul, Nat.reduceSub, Nat.reduceLeDiff, Nat.reduceLT, Nat.reduceEqDiff, Int.reduceNeg, Int.reduceLT, Int.reduceLE, Int.reduceEq, Int.reduceNe, Int.reduceAdd, Int.reduceSub, Int.reduceMul, Int.reduceToNat, Int.reduceBEq, Int.reduceBNe, df91, H.ha, MB, c1, c2, c3]
            exact hS
        · simp (config := { maxSteps := 10000000 }) only [EV1, EV2, EV3, EV4, EV5, EV6, addT, istep, pickR, putD, bin1R, un1R, slcR, bnd, capsOf, fillP, V.plain, V.cells, V.known, C.v, blk, setL, setH, eqS, eq1, cmpS, cmp1, isNil, popTo, killT, setT, leT, V.below, S.below, R.below, V.val, C.val, S.val, R.val, R.takes, vals, shows, unnamed, V.kill, V.names, C.names, S.names, R.names, List.set, List.replicate, ↓q_cond_t, ↓q_cond_f, if_true, if_false, reduceCtorEq, rvals, rvC, result, C.known, V.noL, C.noL, S.noL, R.noL, Option.map, true_and, and_true, ge_iff_le, gt_iff_lt, implies_true, q_ite_t, q_ite_f, beq_iff_eq, bne_iff_ne, q_ne, Nat.reduceAdd, Nat.reducePow, Int.reducePow, Nat.reduceMul, Nat.reduceSub, Nat.reduceLeDiff, Nat.reduceLT, Nat.reduceEqDiff, Int.reduceNeg, Int.reduceLT, Int.reduceLE, Int.reduceEq, Int.reduceNe, Int.reduceAdd, Int.reduceSub, Int.reduceMul, Int.reduceToNat, Int.reduceBEq, Int.reduceBNe, df91, H.ha, MB, c1, c2]
          exact hS
      · simp (config := { maxSteps := 10000000 }) only [EV1, EV2, EV3, EV4, EV5, EV6, addT, istep, pickR, putD, bin1R, un1R, slcR, bnd, capsOf, fillP, V.plain, V.cells, V.known, C.v, blk, setL, setH, eqS, eq1, cmpS, cmp1, isNil, popTo, killT, setT, leT, V.below, S.below, R.below, V.val, C.val, S.val, R.val, R.takes, vals, shows, unnamed, V.kill, V.names, C.names, S.names, R.names, List.set, List.replicate, ↓q_cond_t, ↓q_cond_f, if_true, if_false, reduceCtorEq, rvals, rvC, result, C.known, V.noL, C.noL, S.noL, R.noL, Option.map, true_and, and_true, ge_iff_le, gt_iff_lt, implies_true, q_ite_t, q_ite_f, beq_iff_eq, bne_iff_ne, q_ne, Nat.reduceAdd, Nat.reducePow, Int.reducePow, Nat.reduceMul, Nat.reduceSub, Nat.reduceLeDiff, Nat.reduceLT, Nat.reduceEqDiff, Int.reduceNeg, Int.reduceLT, Int.reduceLE, Int.reduceEq, Int.reduceNe, Int.reduceAdd, Int.reduceSub, Int.reduceMul, Int.reduceToNat, Int.reduceBEq, Int.reduceBNe, df91, H.ha, MB, c1]
        exact hS
  · exact hS.elim
end Go.Proofs.Ythegocjfnjfkdaa

/- The machine's memory: reading and writing. -/
namespace Go.Proofs.Ythegocjfnjfkdaa
open Go.D
set_option linter.all false
set_option maxRecDepth 100000
set_option maxHeartbeats 4000000

theorem IsMem.hb' {h : List Blk} {a b : Nat} {m : M} (H : IsMem h a b m) (B : Blk) : (h.set a B)[b]? = some (MW m) := by rw [set_miss H.ne]; exact H.hb
theorem IsMem.ha' {h : List Blk} {a b : Nat} {m : M} (H : IsMem h a b m) (B : Blk) : (h.set b B)[a]? = some (MB b m) := by rw [set_miss (Ne.symm H.ne)]; exact H.ha

noncomputable def TSp : Tab := addT 69 spanG (addT 91 thereG noT)
theorem TSp_snd : TSp.Snd Try.prog := addT_snd ok69 span_snd (addT_snd ok91 rthere_snd (noT_snd _))

def readM (b : Nat) (m : M) (st : M → List Blk) : List V → Res
  | [.s (.i .i64 x)] => .br (m.has x 1) (.ok (.tup [.s (.i .u64 (m.at x)), .s (.i .i64 0)]) [] (st (m.tick 1))) (.ok (.tup [.s (.i .u64 0), .s (.i .i64 20)]) [] (st m))
  | _ => .bad
noncomputable def readG := memF readM
theorem mread_snd : Snd Try.prog 74 (FSpec.of readG) := snd_run TSp_snd mixed Try.func74 dc74 100 fun args h K hc hS => by
  obtain ⟨a, b, m, rest, rfl, H, hS1⟩ := memF_spec hS
  clear hS
  have hS := hS1
  clear hS1
  unfold readM at hS
  split at hS
  · rename_i x
    simp only [spec_ok, spec_br, setM_self H] at hS
    rw [← setM_steps H (m' := m.tick 1) rfl] at hS
    cases hh : m.has x 1 with
    | true =>
      have hS := hS.1 hh
      obtain ⟨i, j, rfl, e, hij⟩ := M.has_nat hh
      have c1 : ¬ (m.w.length = i) := by omega
      have c2 : (0 : Int) ≤ i ∧ (i : Int) < m.w.length := by omega
      have g := wc_get (w := m.w) (i := i) (by omega)
      simp (config := { maxSteps := 10000000 }) only [EV1, EV2, EV3, EV4, EV5, EV6, addT, istep, pickR, putD, bin1R, un1R, slcR, bnd, capsOf, fillP, V.plain, V.cells, V.known, C.v, blk, setL, setH, eqS, eq1, cmpS, cmp1, isNil, popTo, killT, setT, leT, V.below, S.below, R.below, V.val, C.val, S.val, R.val, R.takes, vals, shows, unnamed, V.kill, V.names, C.names, S.names, R.names, List.set, List.replicate, ↓q_cond_t, ↓q_cond_f, if_true, if_false, reduceCtorEq, rvals, rvC, result, C.known, V.noL, C.noL, S.noL, R.noL, Option.map, true_and, and_true, ge_iff_le, gt_iff_lt, implies_true, q_ite_t, q_ite_f, beq_iff_eq, bne_iff_ne, q_ne, Nat.reduceAdd, Nat.reducePow, Int.reducePow, Nat.reduceMul, Nat.reduceSub, Nat.reduceLeDiff, Nat.reduceLT, Nat.reduceEqDiff, Int.reduceNeg, Int.reduceLT, Int.reduceLE, Int.reduceEq, Int.reduceNe, Int.reduceAdd, Int.reduceSub, Int.reduceMul, Int.reduceToNat, Int.reduceBEq, Int.reduceBNe, df74, TSp, spanG, thereG, memF_eq H, spanM, thereM, setM_self H, hh, c1, c2, H.ha, H.hb, H.hb', MB, MW, g, Int.toNat_natCast, set_hit H.ha]
      exact hS
    | false =>
      have hS := hS.2 hh
      simp (config := { maxSteps := 10000000 }) only [EV1, EV2, EV3, EV4, EV5, EV6, addT, istep, pickR, putD, bin1R, un1R, slcR, bnd, capsOf, fillP, V.plain, V.cells, V.known, C.v, blk, setL, setH, eqS, eq1, cmpS, cmp1, isNil, popTo, killT, setT, leT, V.below, S.below, R.below, V.val, C.val, S.val, R.val, R.takes, vals, shows, unnamed, V.kill, V.names, C.names, S.names, R.names, List.set, List.replicate, ↓q_cond_t, ↓q_cond_f, if_true, if_false, reduceCtorEq, rvals, rvC, result, C.known, V.noL, C.noL, S.noL, R.noL, Option.map, true_and, and_true, ge_iff_le, gt_iff_lt, implies_true, q_ite_t, q_ite_f, beq_iff_eq, bne_iff_ne, q_ne, Nat.reduceAdd, Nat.reducePow, Int.reducePow, Nat.reduceMul, Nat.reduceSub, Nat.reduceLeDiff, Nat.reduceLT, Nat.reduceEqDiff, Int.reduceNeg, Int.reduceLT, Int.reduceLE, Int.reduceEq, Int.reduceNe, Int.reduceAdd, Int.reduceSub, Int.reduceMul, Int.reduceToNat, Int.reduceBEq, Int.reduceBNe, df74, TSp, spanG, thereG, memF_eq H, spanM, thereM, setM_self H, hh]
      exact hS
  · exact hS.elim
theorem rread_snd : Snd Try.prog 95 (FSpec.of readG) := snd_run TSp_snd mixed Try.func95 dc95 100 fun args h K hc hS => by
  obtain ⟨a, b, m, rest, rfl, H, hS1⟩ := memF_spec hS
  clear hS
  have hS := hS1
  clear hS1
  unfold readM at hS
  split at hS
  · rename_i x
    simp only [spec_ok, spec_br, setM_self H] at hS
    rw [← setM_steps H (m' := m.tick 1) rfl] at hS
    cases hh : m.has x 1 with
    | true =>
      have hS := hS.1 hh
      obtain ⟨i, j, rfl, e, hij⟩ := M.has_nat hh
      have c1 : ¬ (m.w.length = i) := by omega
      have c2 : (0 : Int) ≤ i ∧ (i : Int) < m.w.length := by omega
      have g := wc_get (w := m.w) (i := i) (by omega)
      simp (config := { maxSteps := 10000000 }) only [EV1, EV2, EV3, EV4, EV5, EV6, addT, istep, pickR, putD, bin1R, un1R, slcR, bnd, capsOf, fillP, V.plain, V.cells, V.known, C.v, blk, setL, setH, eqS, eq1, cmpS, cmp1, isNil, popTo, killT, setT, leT, V.below, S.below, R.below, V.val, C.val, S.val, R.val, R.takes, vals, shows, unnamed, V.kill, V.names, C.names, S.names, R.names, List.set, List.replicate, ↓q_cond_t, ↓q_cond_f, if_true, if_false, reduceCtorEq, rvals, rvC, result, C.known, V.noL, C.noL, S.noL, R.noL, Option.map, true_and, and_true, ge_iff_le, gt_iff_lt, implies_true, q_ite_t, q_ite_f, beq_iff_eq, bne_iff_ne, q_ne, Nat.reduceAdd, Nat.reducePow, Int.reducePow, Nat.reduceMul, Nat.reduceSub, Nat.reduceLeDiff, Nat.reduceLT, Nat.reduceEqDiff, Int.reduceNeg, Int.reduceLT, Int.reduceLE, Int.reduceEq, Int.reduceNe, Int.reduceAdd, Int.reduceSub, Int.reduceMul, Int.reduceToNat, Int.reduceBEq, Int.reduceBNe, df95, TSp, spanG, thereG, memF_eq H, spanM, thereM, setM_self H, hh, c1, c2, H.ha, H.hb, H.hb', MB, MW, g, Int.toNat_natCast, set_hit H.ha]
      exact hS
    | false =>
      have hS := hS.2 hh
      simp (config := { maxSteps := 10000000 }) only [EV1, EV2, EV3, EV4, EV5, EV6, addT, istep, pickR, putD, bin1R, un1R, slcR, bnd, capsOf, fillP, V.plain, V.cells, V.known, C.v, blk, setL, setH, eqS, eq1, cmpS, cmp1, isNil, popTo, killT, setT, leT, V.below, S.below, R.below, V.val, C.val, S.val, R.val, R.takes, vals, shows, unnamed, V.kill, V.names, C.names, S.names, R.names, List.set, List.replicate, ↓q_cond_t, ↓q_cond_f, if_true, if_false, reduceCtorEq, rvals, rvC, result, C.known, V.noL, C.noL, S.noL, R.noL, Option.map, true_and, and_true, ge_iff_le, gt_iff_lt, implies_true, q_ite_t, q_ite_f, beq_iff_eq, bne_iff_ne, q_ne, Nat.reduceAdd, Nat.reducePow, Int.reducePow, Nat.reduceMul, Nat.reduceSub, Nat.reduceLeDiff, Nat.reduceLT, Nat.reduceEqDiff, Int.reduceNeg, Int.reduceLT, Int.reduceLE, Int.reduceEq, Int.reduceNe, Int.reduceAdd, Int.reduceSub, Int.reduceMul, Int.reduceToNat, Int.reduceBEq, Int.reduceBNe, df95, TSp, spanG, thereG, memF_eq H, spanM, thereM, setM_self H, hh]
      exact hS
  · exact hS.elim

def fillM (b : Nat) (m : M) (st : M → List Blk) : List V → Res
  | [.s (.i .i64 x), .s (.i .i64 k), .s (.i .u64 v)] => .ob (u64 v) (.br (m.has x k) (.ok (.s (.i .i64 0)) [] (st ((m.fill x.toNat v k.toNat).tick k))) (.ok (.s (.i .i64 20)) [] (st m)))
  | _ => .bad
noncomputable def fillG := memF fillM
theorem mfill_snd : Snd Try.prog 40 (FSpec.of fillG) := snd_run TSp_snd mixed Try.func40 dc40 100 fun args h K hc hS => by
  obtain ⟨a, b, m, rest, rfl, H, hS1⟩ := memF_spec hS
  clear hS
  have hS := hS1
  clear hS1
  unfold fillM at hS
  split at hS
  · rename_i x k v
    simp only [spec_ob, spec_ok, spec_br, setM_self H] at hS
    obtain ⟨hv, hS⟩ := hS
    cases hh : m.has x k with
    | true =>
      have hS := hS.1 hh
      obtain ⟨i, j, rfl, rfl, hij⟩ := M.has_nat hh
      simp only [Int.toNat_natCast] at hS
      have hl := m.l
      obtain ⟨o, ho, hoi⟩ : ∃ o : Nat, (if m.w.length = i then 0 else i) = o ∧ (i < m.w.length → o = i) := ⟨_, rfl, fun hlt => if_neg (by omega)⟩
      simp (config := { maxSteps := 10000000 }) only [EV1, EV2, EV3, EV4, EV5, EV6, addT, istep, pickR, putD, bin1R, un1R, slcR, bnd, capsOf, fillP, V.plain, V.cells, V.known, C.v, blk, setL, setH, eqS, eq1, cmpS, cmp1, isNil, popTo, killT, setT, leT, V.below, S.below, R.below, V.val, C.val, S.val, R.val, R.takes, vals, shows, unnamed, V.kill, V.names, C.names, S.names, R.names, List.set, List.replicate, ↓q_cond_t, ↓q_cond_f, if_true, if_false, reduceCtorEq, rvals, rvC, result, C.known, V.noL, C.noL, S.noL, R.noL, Option.map, true_and, and_true, ge_iff_le, gt_iff_lt, implies_true, q_ite_t, q_ite_f, beq_iff_eq, bne_iff_ne, q_ne, Nat.reduceAdd, Nat.reducePow, Int.reducePow, Nat.reduceMul, Nat.reduceSub, Nat.reduceLeDiff, Nat.reduceLT, Nat.reduceEqDiff, Int.reduceNeg, Int.reduceLT, Int.reduceLE, Int.reduceEq, Int.reduceNe, Int.reduceAdd, Int.reduceSub, Int.reduceMul, Int.reduceToNat, Int.reduceBEq, Int.reduceBNe, df40, TSp, spanG, memF_eq H, spanM, setM_self H, hh, Int.toNat_natCast, ho]
      refine loop_rule (α := Nat) [11, 23, 24, 25, 26, 27, 28, 29, 30] (fun q => [(23, .s (.i .i64 q))]) (fun _ => []) (fun q => h.set b ⟨.rw, wc (m.fill i v q).w, m.w.length⟩) (fun q => q ≤ j) (fun q => j - q) 0 (by omega) ?_ ?_
      · simp only [M.fill]
        rw [show (⟨.rw, wc m.w, m.w.length⟩ : Blk) = MW m from rfl, set_self H.hb]
        refine Wk.less ?_
        simp (config := { maxSteps := 10000000 }) only [EV1, EV2, EV3, EV4, EV5, EV6, addT, istep, pickR, putD, bin1R, un1R, slcR, bnd, capsOf, fillP, V.plain, V.cells, V.known, C.v, blk, setL, setH, eqS, eq1, cmpS, cmp1, isNil, popTo, killT, setT, leT, V.below, S.below, R.below, V.val, C.val, S.val, R.val, R.takes, vals, shows, unnamed, V.kill, V.names, C.names, S.names, R.names, List.set, List.replicate, ↓q_cond_t, ↓q_cond_f, if_true, if_false, reduceCtorEq, rvals, rvC, result, C.known, V.noL, C.noL, S.noL, R.noL, Option.map, true_and, and_true, ge_iff_le, gt_iff_lt, implies_true, q_ite_t, q_ite_f, beq_iff_eq, bne_iff_ne, q_ne, Nat.reduceAdd, Nat.reducePow, Int.reducePow, Nat.reduceMul, Nat.reduceSub, Nat.reduceLeDiff, Nat.reduceLT, Nat.reduceEqDiff, Int.reduceNeg, Int.reduceLT, Int.reduceLE, Int.reduceEq, Int.reduceNe, Int.reduceAdd, Int.reduceSub, Int.reduceMul, Int.reduceToNat, Int.reduceBEq, Int.reduceBNe, q_cast, Int.natCast_zero]
      · rintro X q hq IH
        rcases Nat.lt_or_ge q j with h1 | h1
        · obtain ⟨d1, d2, d3, d4⟩ := idx h1 (by omega)
          have c1 := (hoi (by omega)).symm
          subst c1
          have c3 : (h.set b ⟨BK.rw, wc (m.fill i v q).w, m.w.length⟩)[b]? = some ⟨BK.rw, wc (m.fill i v q).w, m.w.length⟩ := set_hit H.hb
          have c4 : i + q + 1 ≤ (wc (m.fill i v q).w).length := by rw [wc_len, M.fill_len]; omega
          have c5 : ((wc (m.fill i v q).w).set (i + q) (S.i .u64 v)) = wc (m.fill i v (q + 1)).w := by rw [wc_set]; simp only [M.fill, M.put, uw_of hv]
          refine run_sound (Tab.ok_Γ _) 100 _ _ _ _ ?_
          simp (config := { maxSteps := 10000000 }) only [EV1, EV2, EV3, EV4, EV5, EV6, addT, istep, pickR, putD, bin1R, un1R, slcR, bnd, capsOf, fillP, V.plain, V.cells, V.known, C.v, blk, setL, setH, eqS, eq1, cmpS, cmp1, isNil, popTo, killT, setT, leT, V.below, S.below, R.below, V.val, C.val, S.val, R.val, R.takes, vals, shows, unnamed, V.kill, V.names, C.names, S.names, R.names, List.set, List.replicate, ↓q_cond_t, ↓q_cond_f, if_true, if_false, reduceCtorEq, rvals, rvC, result, C.known, V.noL, C.noL, S.noL, R.noL, Option.map, true_and, and_true, ge_iff_le, gt_iff_lt, implies_true, q_ite_t, q_ite_f, beq_iff_eq, bne_iff_ne, q_ne, Nat.reduceAdd, Nat.reducePow, Int.reducePow, Nat.reduceMul, Nat.reduceSub, Nat.reduceLeDiff, Nat.reduceLT, Nat.reduceEqDiff, Int.reduceNeg, Int.reduceLT, Int.reduceLE, Int.reduceEq, Int.reduceNe, Int.reduceAdd, Int.reduceSub, Int.reduceMul, Int.reduceToNat, Int.reduceBEq, Int.reduceBNe, d1, d2, d3, d4, c3, MW, c4, Int.toNat_natCast, put, c5, List.set_set]
          exact IH (q + 1) _ (by omega) (by omega) (Wk.same rfl rfl (by simp (config := { maxSteps := 10000000 }) only [EV1, EV2, EV3, EV4, EV5, EV6, addT, istep, pickR, putD, bin1R, un1R, slcR, bnd, capsOf, fillP, V.plain, V.cells, V.known, C.v, blk, setL, setH, eqS, eq1, cmpS, cmp1, isNil, popTo, killT, setT, leT, V.below, S.below, R.below, V.val, C.val, S.val, R.val, R.takes, vals, shows, unnamed, V.kill, V.names, C.names, S.names, R.names, List.set, List.replicate, ↓q_cond_t, ↓q_cond_f, if_true, if_false, reduceCtorEq, rvals, rvC, result, C.known, V.noL, C.noL, S.noL, R.noL, Option.map, true_and, and_true, ge_iff_le, gt_iff_lt, implies_true, q_ite_t, q_ite_f, beq_iff_eq, bne_iff_ne, q_ne, Nat.reduceAdd, Nat.reducePow, Int.reducePow, Nat.reduceMul, Nat.reduceSub, Nat.reduceLeDiff, Nat.reduceLT, Nat.reduceEqDiff, Int.reduceNeg, Int.reduceLT, Int.reduceLE, Int.reduceEq, Int.reduceNe, Int.reduceAdd, Int.reduceSub, Int.reduceMul, Int.reduceToNat, Int.reduceBEq, Int.reduceBNe]))
        · have : q = j := by omega
          subst this
          have ha := H.ha'
          refine run_sound (Tab.ok_Γ _) 100 _ _ _ _ ?_
          simp (config := { maxSteps := 10000000 }) only [EV1, EV2, EV3, EV4, EV5, EV6, addT, istep, pickR, putD, bin1R, un1R, slcR, bnd, capsOf, fillP, V.plain, V.cells, V.known, C.v, blk, setL, setH, eqS, eq1, cmpS, cmp1, isNil, popTo, killT, setT, leT, V.below, S.below, R.below, V.val, C.val, S.val, R.val, R.takes, vals, shows, unnamed, V.kill, V.names, C.names, S.names, R.names, List.set, List.replicate, ↓q_cond_t, ↓q_cond_f, if_true, if_false, reduceCtorEq, rvals, rvC, result, C.known, V.noL, C.noL, S.noL, R.noL, Option.map, true_and, and_true, ge_iff_le, gt_iff_lt, implies_true, q_ite_t, q_ite_f, beq_iff_eq, bne_iff_ne, q_ne, Nat.reduceAdd, Nat.reducePow, Int.reducePow, Nat.reduceMul, Nat.reduceSub, Nat.reduceLeDiff, Nat.reduceLT, Nat.reduceEqDiff, Int.reduceNeg, Int.reduceLT, Int.reduceLE, Int.reduceEq, Int.reduceNe, Int.reduceAdd, Int.reduceSub, Int.reduceMul, Int.reduceToNat, Int.reduceBEq, Int.reduceBNe, Int.lt_irrefl, ha, MB]
          refine cast (congrArg (K _) ?_) hS
          simp only [setM]
          rw [List.set_comm _ _ H.ne]
          simp only [MW, MB, M.tick, M.fill_len, M.fill_n]
    | false =>
      have hS := hS.2 hh
      simp (config := { maxSteps := 10000000 }) only [EV1, EV2, EV3, EV4, EV5, EV6, addT, istep, pickR, putD, bin1R, un1R, slcR, bnd, capsOf, fillP, V.plain, V.cells, V.known, C.v, blk, setL, setH, eqS, eq1, cmpS, cmp1, isNil, popTo, killT, setT, leT, V.below, S.below, R.below, V.val, C.val, S.val, R.val, R.takes, vals, shows, unnamed, V.kill, V.names, C.names, S.names, R.names, List.set, List.replicate, ↓q_cond_t, ↓q_cond_f, if_true, if_false, reduceCtorEq, rvals, rvC, result, C.known, V.noL, C.noL, S.noL, R.noL, Option.map, true_and, and_true, ge_iff_le, gt_iff_lt, implies_true, q_ite_t, q_ite_f, beq_iff_eq, bne_iff_ne, q_ne, Nat.reduceAdd, Nat.reducePow, Int.reducePow, Nat.reduceMul, Nat.reduceSub, Nat.reduceLeDiff, Nat.reduceLT, Nat.reduceEqDiff, Int.reduceNeg, Int.reduceLT, Int.reduceLE, Int.reduceEq, Int.reduceNe, Int.reduceAdd, Int.reduceSub, Int.reduceMul, Int.reduceToNat, Int.reduceBEq, Int.reduceBNe, df40, TSp, spanG, memF_eq H, spanM, setM_self H, hh]
      exact hS
  · exact hS.elim

def writeM (b : Nat) (m : M) (st : M → List Blk) : List V → Res
  | [.s (.i .i64 x), .s (.i .u64 v)] => .ob (u64 v) (.br (m.has x 1) (.ok (.s (.i .i64 0)) [] (st ((m.put x.toNat v).tick 1))) (.ok (.s (.i .i64 20)) [] (st m)))
  | _ => .bad
noncomputable def writeG := memF writeM
noncomputable def TFi : Tab := addT 40 fillG noT
theorem TFi_snd : TFi.Snd Try.prog := addT_snd ok40 mfill_snd (noT_snd _)
theorem mwrite_snd : Snd Try.prog 72 (FSpec.of writeG) := snd_run TFi_snd mixed Try.func72 dc72 100 fun args h K hc hS => by
  obtain ⟨a, b, m, rest, rfl, H, hS1⟩ := memF_spec hS
  clear hS
  have hS := hS1
  clear hS1
  unfold writeM at hS
  split at hS
  · rename_i x v
    simp only [spec_ob, spec_ok, spec_br, setM_self H] at hS
    obtain ⟨hv, hS⟩ := hS
    cases hh : m.has x 1 with
    | true =>
      have hS := hS.1 hh
      simp (config := { maxSteps := 10000000 }) only [EV1, EV2, EV3, EV4, EV5, EV6, addT, istep, pickR, putD, bin1R, un1R, slcR, bnd, capsOf, fillP, V.plain, V.cells, V.known, C.v, blk, setL, setH, eqS, eq1, cmpS, cmp1, isNil, popTo, killT, setT, leT, V.below, S.below, R.below, V.val, C.val, S.val, R.val, R.takes, vals, shows, unnamed, V.kill, V.names, C.names, S.names, R.names, List.set, List.replicate, ↓q_cond_t, ↓q_cond_f, if_true, if_false, reduceCtorEq, rvals, rvC, result, C.known, V.noL, C.noL, S.noL, R.noL, Option.map, true_and, and_true, ge_iff_le, gt_iff_lt, implies_true, q_ite_t, q_ite_f, beq_iff_eq, bne_iff_ne, q_ne, Nat.reduceAdd, Nat.reducePow, Int.reducePow, Nat.reduceMul, Nat.reduceSub, Nat.reduceLeDiff, Nat.reduceLT, Nat.reduceEqDiff, Int.reduceNeg, Int.reduceLT, Int.reduceLE, Int.reduceEq, Int.reduceNe, Int.reduceAdd, Int.reduceSub, Int.reduceMul, Int.reduceToNat, Int.reduceBEq, Int.reduceBNe, df72, TFi, fillG, memF_eq H, fillM, setM_self H, hh, hv, M.fill]
      exact hS
    | false =>
      have hS := hS.2 hh
      simp (config := { maxSteps := 10000000 }) only [EV1, EV2, EV3, EV4, EV5, EV6, addT, istep, pickR, putD, bin1R, un1R, slcR, bnd, capsOf, fillP, V.plain, V.cells, V.known, C.v, blk, setL, setH, eqS, eq1, cmpS, cmp1, isNil, popTo, killT, setT, leT, V.below, S.below, R.below, V.val, C.val, S.val, R.val, R.takes, vals, shows, unnamed, V.kill, V.names, C.names, S.names, R.names, List.set, List.replicate, ↓q_cond_t, ↓q_cond_f, if_true, if_false, reduceCtorEq, rvals, rvC, result, C.known, V.noL, C.noL, S.noL, R.noL, Option.map, true_and, and_true, ge_iff_le, gt_iff_lt, implies_true, q_ite_t, q_ite_f, beq_iff_eq, bne_iff_ne, q_ne, Nat.reduceAdd, Nat.reducePow, Int.reducePow, Nat.reduceMul, Nat.reduceSub, Nat.reduceLeDiff, Nat.reduceLT, Nat.reduceEqDiff, Int.reduceNeg, Int.reduceLT, Int.reduceLE, Int.reduceEq, Int.reduceNe, Int.reduceAdd, Int.reduceSub, Int.reduceMul, Int.reduceToNat, Int.reduceBEq, Int.reduceBNe, df72, TFi, fillG, memF_eq H, fillM, setM_self H, hh, hv, M.fill]
      exact hS
  · exact hS.elim
theorem rwrite_snd : Snd Try.prog 94 (FSpec.of writeG) := snd_run TSp_snd mixed Try.func94 dc94 100 fun args h K hc hS => by
  obtain ⟨a, b, m, rest, rfl, H, hS1⟩ := memF_spec hS
  clear hS
  have hS := hS1
  clear hS1
  unfold writeM at hS
  split at hS
  · rename_i x v
    simp only [spec_ob, spec_ok, spec_br, setM_self H] at hS
    obtain ⟨hv, hS⟩ := hS
    cases hh : m.has x 1 with
    | true =>
      have hS := hS.1 hh
      obtain ⟨i, j, rfl, e, hij⟩ := M.has_nat hh
      have c2 : (0 : Int) ≤ i ∧ (i : Int) < m.w.length := by omega
      have c4 : i + 1 ≤ (wc m.w).length := by rw [wc_len]; omega
      simp (config := { maxSteps := 10000000 }) only [EV1, EV2, EV3, EV4, EV5, EV6, addT, istep, pickR, putD, bin1R, un1R, slcR, bnd, capsOf, fillP, V.plain, V.cells, V.known, C.v, blk, setL, setH, eqS, eq1, cmpS, cmp1, isNil, popTo, killT, setT, leT, V.below, S.below, R.below, V.val, C.val, S.val, R.val, R.takes, vals, shows, unnamed, V.kill, V.names, C.names, S.names, R.names, List.set, List.replicate, ↓q_cond_t, ↓q_cond_f, if_true, if_false, reduceCtorEq, rvals, rvC, result, C.known, V.noL, C.noL, S.noL, R.noL, Option.map, true_and, and_true, ge_iff_le, gt_iff_lt, implies_true, q_ite_t, q_ite_f, beq_iff_eq, bne_iff_ne, q_ne, Nat.reduceAdd, Nat.reducePow, Int.reducePow, Nat.reduceMul, Nat.reduceSub, Nat.reduceLeDiff, Nat.reduceLT, Nat.reduceEqDiff, Int.reduceNeg, Int.reduceLT, Int.reduceLE, Int.reduceEq, Int.reduceNe, Int.reduceAdd, Int.reduceSub, Int.reduceMul, Int.reduceToNat, Int.reduceBEq, Int.reduceBNe, df94, TSp, thereG, memF_eq H, thereM, setM_self H, hh, c2, H.ha, H.hb, H.ha', H.hb', MB, MW, put, wc_set, Int.toNat_natCast, c4, set_hit H.ha]
      refine cast (congrArg (K _) ?_) hS
      simp only [setM, MW, MB, M.tick, M.put, List.length_set, uw_of hv, Int.toNat_natCast]
    | false =>
      have hS := hS.2 hh
      simp (config := { maxSteps := 10000000 }) only [EV1, EV2, EV3, EV4, EV5, EV6, addT, istep, pickR, putD, bin1R, un1R, slcR, bnd, capsOf, fillP, V.plain, V.cells, V.known, C.v, blk, setL, setH, eqS, eq1, cmpS, cmp1, isNil, popTo, killT, setT, leT, V.below, S.below, R.below, V.val, C.val, S.val, R.val, R.takes, vals, shows, unnamed, V.kill, V.names, C.names, S.names, R.names, List.set, List.replicate, ↓q_cond_t, ↓q_cond_f, if_true, if_false, reduceCtorEq, rvals, rvC, result, C.known, V.noL, C.noL, S.noL, R.noL, Option.map, true_and, and_true, ge_iff_le, gt_iff_lt, implies_true, q_ite_t, q_ite_f, beq_iff_eq, bne_iff_ne, q_ne, Nat.reduceAdd, Nat.reducePow, Int.reducePow, Nat.reduceMul, Nat.reduceSub, Nat.reduceLeDiff, Nat.reduceLT, Nat.reduceEqDiff, Int.reduceNeg, Int.reduceLT, Int.reduceLE, Int.reduceEq, Int.reduceNe, Int.reduceAdd, Int.reduceSub, Int.reduceMul, Int.reduceToNat, Int.reduceBEq, Int.reduceBNe, df94, TSp, thereG, memF_eq H, thereM, setM_self H, hh]
      exact hS
  · exact hS.elim
end Go.Proofs.Ythegocjfnjfkdaa

/- The machine's memory: what is read behind a write. -/
namespace Go.Proofs.Ythegocjfnjfkdaa
open Go.D
set_option linter.all false
set_option maxRecDepth 100000
set_option maxHeartbeats 4000000

theorem nth_set {α : Type} {d : α} : ∀ (l : List α) (i j : Nat) (x : α), nth d (l.set i x) j = if i = j ∧ i < l.length then x else nth d l j
  | [], i, j, x => by simp [nth]
  | y :: l, 0, 0, x => by simp [nth]
  | y :: l, 0, j + 1, x => by simp [nth]
  | y :: l, i + 1, 0, x => by simp [nth]
  | y :: l, i + 1, j + 1, x => by simp [nth, nth_set l i j x]
theorem nth_replicate {α : Type} {d : α} {n i : Nat} : nth d (List.replicate n d) i = d := by
  induction n generalizing i with
  | zero => rfl
  | succ n ih => cases i with
    | zero => rfl
    | succ i => exact ih
theorem M.at_put (m : M) (i : Nat) (x : Int) (j : Int) : (m.put i x).at j = if i = j.toNat ∧ i < m.w.length then uw x else m.at j := by
  simp only [M.at, M.put, nth_set]
theorem M.at_tick (m : M) (k j : Int) : (m.tick k).at j = m.at j := rfl
theorem M.at_zero (k : Nat) (j : Int) : (M.zero k).at j = 0 := by simp only [M.at, M.zero, nth_replicate]
theorem M.at_fill (m : M) (a : Nat) (x : Int) (j : Int) : ∀ k : Nat, (m.fill a x k).at j = if a ≤ j.toNat ∧ j.toNat < a + k ∧ j.toNat < m.w.length then uw x else m.at j
  | 0 => by rw [M.fill, if_neg (by omega)]
  | k + 1 => by
    rw [M.fill, M.at_put, M.fill_len, M.at_fill m a x j k]
    split
    · rw [if_pos (by omega)]
    · split
      · rw [if_pos (by omega)]
      · rw [if_neg (by omega)]
/-- Two memories of the same words and steps are the same. -/
theorem M.ext_at {m k : M} (hl : m.w.length = k.w.length) (hn : m.n = k.n) (h : ∀ i : Nat, i < m.w.length → m.at i = k.at i) : m = k := by
  refine M.ext' (List.ext_getElem hl fun i h1 h2 => ?_) hn
  have := h i h1
  simp only [M.at, Int.toNat_natCast, nth_eq h1, nth_eq h2] at this
  exact this
theorem M.has_of {m : M} {a k : Int} (h : 0 ≤ a ∧ 0 ≤ k ∧ a + k ≤ m.w.length) : m.has a k = true := by rw [M.has_iff]; omega
theorem M.has_no {m : M} {a k : Int} (h : ¬ (0 ≤ a ∧ 0 ≤ k ∧ a + k ≤ m.w.length)) : m.has a k = false := by
  rw [Bool.eq_false_iff]
  intro e
  rw [M.has_iff] at e
  omega
end Go.Proofs.Ythegocjfnjfkdaa

/- Package slots: which slots may be, where. -/
namespace Go.Proofs.Ythegocjfnjfkdaa
open Go.D
set_option linter.all false
set_option maxRecDepth 100000
set_option maxHeartbeats 4000000

structure Slot where
  cap : Cap
  prev : Int
  next : Int
  depth : Int
def Slot.cl (s : Slot) : List S := [.i .i64 s.cap.ty, .i .i64 s.cap.obj, .i .i64 s.cap.bits, .i .i64 s.cap.mark, .i .i64 s.cap.guard, .i .i64 s.cap.gbits, .i .i64 s.cap.badge, .i .i64 s.cap.rights, .i .i64 s.cap.asid, .i .i64 s.cap.vaddr, .i .i64 s.cap.line,
  .i .i64 s.prev, .i .i64 s.next, .i .i64 s.depth]
def slotZ : Slot := ⟨capZ, 0, 0, 0⟩
def slotF (f : Slot → Res) : List V → Res
  | [.agg [.i .i64 a, .i .i64 b, .i .i64 c, .i .i64 d, .i .i64 e, .i .i64 g, .i .i64 i, .i .i64 j, .i .i64 k, .i .i64 l, .i .i64 m, .i .i64 p, .i .i64 n, .i .i64 q]] => f ⟨⟨a, b, c, d, e, g, i, j, k, l, m⟩, p, n, q⟩
  | _ => .bad
theorem slotF_spec {f : Slot → Res} {args : List V} {K : V → List Blk → Prop} (h : (slotF f args).spec K) : ∃ s : Slot, args = [.agg s.cl] ∧ (f s).spec K := by
  unfold slotF at h
  split at h
  · exact ⟨_, rfl, h⟩
  · exact h.elim
theorem slot_eta (s : Slot) : (⟨⟨s.cap.ty, s.cap.obj, s.cap.bits, s.cap.mark, s.cap.guard, s.cap.gbits, s.cap.badge, s.cap.rights, s.cap.asid, s.cap.vaddr, s.cap.line⟩, s.prev, s.next, s.depth⟩ : Slot) = s := rfl

def linkB (n : Int) : Bool := decide (0 ≤ n) && (decide (n < 65536) && n.tmod 4 == 0)
def linkG : List V → List Blk → Res
  | [.s (.i .i64 n)], h => .ok (.s (.b (linkB n))) [] h
  | _, _ => .bad
theorem link_snd : Snd Try.prog 89 (FSpec.of linkG) := snd_run (noT_snd _) mixed Try.func89 dc89 100 fun args h K hc hS => by
  unfold linkG at hS
  split at hS
  · simp only [spec_ok, linkB] at hS
    simp (config := { maxSteps := 10000000 }) only [EV1, EV2, EV3, EV4, EV5, EV6, addT, istep, pickR, putD, bin1R, un1R, slcR, bnd, capsOf, fillP, V.plain, V.cells, V.known, C.v, blk, setL, setH, eqS, eq1, cmpS, cmp1, isNil, popTo, killT, setT, leT, V.below, S.below, R.below, V.val, C.val, S.val, R.val, R.takes, vals, shows, unnamed, V.kill, V.names, C.names, S.names, R.names, List.set, List.replicate, ↓q_cond_t, ↓q_cond_f, if_true, if_false, reduceCtorEq, rvals, rvC, result, C.known, V.noL, C.noL, S.noL, R.noL, Option.map, true_and, and_true, ge_iff_le, gt_iff_lt, implies_true, q_ite_t, q_ite_f, beq_iff_eq, bne_iff_ne, q_ne, Nat.reduceAdd, Nat.reducePow, Int.reducePow, Nat.reduceMul, Nat.reduceSub, Nat.reduceLeDiff, Nat.reduceLT, Nat.reduceEqDiff, Int.reduceNeg, Int.reduceLT, Int.reduceLE, Int.reduceEq, Int.reduceNe, Int.reduceAdd, Int.reduceSub, Int.reduceMul, Int.reduceToNat, Int.reduceBEq, Int.reduceBNe, df89, Bool.and_assoc]
    exact hS
  · exact hS.elim
theorem link_ref (n : Int) : (decide (0 ≤ n) && (decide (n ≤ 65532) && n.tmod 4 == 0)) = linkB n := by
  unfold linkB
  by_cases h : 0 ≤ n
  · rw [Int.tmod_eq_emod_of_nonneg h, Bool.eq_iff_iff]
    simp only [Bool.and_eq_true, decide_eq_true_eq, beq_iff_eq]
    omega
  · simp [h]
theorem rlink_snd : Snd Try.prog 92 (FSpec.of linkG) := snd_run (noT_snd _) mixed Try.func92 dc92 100 fun args h K hc hS => by
  unfold linkG at hS
  split at hS
  · simp only [spec_ok, ← link_ref] at hS
    simp (config := { maxSteps := 10000000 }) only [EV1, EV2, EV3, EV4, EV5, EV6, addT, istep, pickR, putD, bin1R, un1R, slcR, bnd, capsOf, fillP, V.plain, V.cells, V.known, C.v, blk, setL, setH, eqS, eq1, cmpS, cmp1, isNil, popTo, killT, setT, leT, V.below, S.below, R.below, V.val, C.val, S.val, R.val, R.takes, vals, shows, unnamed, V.kill, V.names, C.names, S.names, R.names, List.set, List.replicate, ↓q_cond_t, ↓q_cond_f, if_true, if_false, reduceCtorEq, rvals, rvC, result, C.known, V.noL, C.noL, S.noL, R.noL, Option.map, true_and, and_true, ge_iff_le, gt_iff_lt, implies_true, q_ite_t, q_ite_f, beq_iff_eq, bne_iff_ne, q_ne, Nat.reduceAdd, Nat.reducePow, Int.reducePow, Nat.reduceMul, Nat.reduceSub, Nat.reduceLeDiff, Nat.reduceLT, Nat.reduceEqDiff, Int.reduceNeg, Int.reduceLT, Int.reduceLE, Int.reduceEq, Int.reduceNe, Int.reduceAdd, Int.reduceSub, Int.reduceMul, Int.reduceToNat, Int.reduceBEq, Int.reduceBNe, df92, Bool.and_assoc]
    exact hS
  · exact hS.elim

/-- Is it the empty slot? -/
def Slot.isZ (s : Slot) : Bool := s.cap.ty == 0 && (s.cap.obj == 0 && (s.cap.bits == 0 && (s.cap.mark == 0 && (s.cap.guard == 0 && (s.cap.gbits == 0 && (s.cap.badge == 0 && (s.cap.rights == 0 && (s.cap.asid == 0 && (s.cap.vaddr == 0 && (s.cap.line == 0 && (s.prev == 0 && (s.next == 0 && s.depth == 0))))))))))))
theorem Slot.isZ_iff {s : Slot} : s.isZ = true ↔ s = slotZ := by
  obtain ⟨⟨t, o, b, d, e, g, i, j, k, l, m⟩, p, n, q⟩ := s
  simp [Slot.isZ, slotZ, capZ, Bool.and_eq_true, and_assoc]
def slotRB (s : Slot) : Bool := !(s.cap.ty == 0 && !s.isZ) && (rightB s.cap && (linkB s.prev && (linkB s.next && (decide (0 ≤ s.depth) && decide (s.depth < 65536)))))
def slotRG (args : List V) (h : List Blk) : Res := slotF (fun s => .ok (.s (.b (slotRB s))) [] h) args
def TSr : Tab := addT 89 linkG (addT 15 rightG (addT 92 linkG (addT 16 rightG noT)))
theorem TSr_snd : TSr.Snd Try.prog := addT_snd ok89 link_snd (addT_snd ok15 right_snd (addT_snd ok92 rlink_snd (addT_snd ok16 rright_snd (noT_snd _))))
theorem slotR_snd : Snd Try.prog 68 (FSpec.of slotRG) := snd_run TSr_snd mixed Try.func68 dc68 200 fun args h K hc hS => by
  obtain ⟨s, rfl, hR⟩ := slotF_spec hS
  clear hS
  simp only [spec_ok] at hR
  obtain ⟨c, p, n, q⟩ := s
  have hR : K (.s (.b (!(c.ty == 0 && !(Slot.mk c p n q).isZ) && (rightB c && (linkB p && (linkB n && (decide (0 ≤ q) && decide (q < 65536)))))))) h := hR
  have ez : (c.ty == 0 && (c.obj == 0 && (c.bits == 0 && (c.mark == 0 && (c.guard == 0 && (c.gbits == 0 && (c.badge == 0 && (c.rights == 0 && (c.asid == 0 && (c.vaddr == 0 && (c.line == 0 && (p == 0 && (n == 0 && q == 0))))))))))))) = (Slot.mk c p n q).isZ := rfl
  simp only [Slot.cl]
  by_cases h0 : c.ty = 0
  · have hne : (c.ty != 0) = false := by simp [h0]
    cases hz : (Slot.mk c p n q).isZ <;> cases hr : rightB c <;> cases hp : linkB p <;> cases hn : linkB n
    all_goals simp only [hz, hr, hp, hn, h0, beq_self_eq_true, Bool.not_true, Bool.not_false, Bool.true_and, Bool.and_true, Bool.false_and, Bool.and_false] at hR
    all_goals by_cases hq : q < 0
    all_goals (try have hq1 : ¬ 0 ≤ q := by omega)
    all_goals (try have hq1 : 0 ≤ q := by omega)
    all_goals by_cases hq2 : 65535 < q
    all_goals try (exfalso; omega)
    all_goals (try have hq3 : ¬ q < 65536 := by omega)
    all_goals (try have hq3 : q < 65536 := by omega)
    all_goals try simp only [hq1, hq3, decide_true, decide_false, Bool.true_and, Bool.and_true, Bool.false_and, Bool.and_false] at hR
    all_goals (simp (config := { maxSteps := 10000000 }) only [EV1, EV2, EV3, EV4, EV5, EV6, addT, istep, pickR, putD, bin1R, un1R, slcR, bnd, capsOf, fillP, V.plain, V.cells, V.known, C.v, blk, setL, setH, eqS, eq1, cmpS, cmp1, isNil, popTo, killT, setT, leT, V.below, S.below, R.below, V.val, C.val, S.val, R.val, R.takes, vals, shows, unnamed, V.kill, V.names, C.names, S.names, R.names, List.set, List.replicate, ↓q_cond_t, ↓q_cond_f, if_true, if_false, reduceCtorEq, rvals, rvC, result, C.known, V.noL, C.noL, S.noL, R.noL, Option.map, true_and, and_true, ge_iff_le, gt_iff_lt, implies_true, q_ite_t, q_ite_f, beq_iff_eq, bne_iff_ne, q_ne, Nat.reduceAdd, Nat.reducePow, Int.reducePow, Nat.reduceMul, Nat.reduceSub, Nat.reduceLeDiff, Nat.reduceLT, Nat.reduceEqDiff, Int.reduceNeg, Int.reduceLT, Int.reduceLE, Int.reduceEq, Int.reduceNe, Int.reduceAdd, Int.reduceSub, Int.reduceMul, Int.reduceToNat, Int.reduceBEq, Int.reduceBNe, df68, TSr, linkG, rightG, capF, cap_eta, ez, hne, hz, hr, hp, hn, hq, hq1, hq2, hq3, put, fillP, sub, List.take_succ_cons, List.take_zero, List.drop_zero])
    all_goals first | exact hR | exact ⟨fun _ => hR, fun _ => hR⟩ | exact ⟨fun _ => hR, fun x => absurd h0 x⟩
  · have h1 : (c.ty == 0) = false := by simpa using h0
    have hne : (c.ty != 0) = true := by simpa using h0
    cases hr : rightB c <;> cases hp : linkB p <;> cases hn : linkB n
    all_goals simp only [hr, hp, hn, h1, Bool.not_true, Bool.not_false, Bool.true_and, Bool.and_true, Bool.false_and, Bool.and_false] at hR
    all_goals by_cases hq : q < 0
    all_goals (try have hq1 : ¬ 0 ≤ q := by omega)
    all_goals (try have hq1 : 0 ≤ q := by omega)
    all_goals by_cases hq2 : 65535 < q
    all_goals try (exfalso; omega)
    all_goals (try have hq3 : ¬ q < 65536 := by omega)
    all_goals (try have hq3 : q < 65536 := by omega)
    all_goals try simp only [hq1, hq3, decide_true, decide_false, Bool.true_and, Bool.and_true, Bool.false_and, Bool.and_false] at hR
    all_goals (simp (config := { maxSteps := 10000000 }) only [EV1, EV2, EV3, EV4, EV5, EV6, addT, istep, pickR, putD, bin1R, un1R, slcR, bnd, capsOf, fillP, V.plain, V.cells, V.known, C.v, blk, setL, setH, eqS, eq1, cmpS, cmp1, isNil, popTo, killT, setT, leT, V.below, S.below, R.below, V.val, C.val, S.val, R.val, R.takes, vals, shows, unnamed, V.kill, V.names, C.names, S.names, R.names, List.set, List.replicate, ↓q_cond_t, ↓q_cond_f, if_true, if_false, reduceCtorEq, rvals, rvC, result, C.known, V.noL, C.noL, S.noL, R.noL, Option.map, true_and, and_true, ge_iff_le, gt_iff_lt, implies_true, q_ite_t, q_ite_f, beq_iff_eq, bne_iff_ne, q_ne, Nat.reduceAdd, Nat.reducePow, Int.reducePow, Nat.reduceMul, Nat.reduceSub, Nat.reduceLeDiff, Nat.reduceLT, Nat.reduceEqDiff, Int.reduceNeg, Int.reduceLT, Int.reduceLE, Int.reduceEq, Int.reduceNe, Int.reduceAdd, Int.reduceSub, Int.reduceMul, Int.reduceToNat, Int.reduceBEq, Int.reduceBNe, df68, TSr, linkG, rightG, capF, cap_eta, h0, h1, hne, hr, hp, hn, hq, hq1, hq2, hq3, put, fillP, sub, List.take_succ_cons, List.take_zero, List.drop_zero])
    all_goals exact hR
theorem rslotR_snd : Snd Try.prog 79 (FSpec.of slotRG) := snd_run TSr_snd mixed Try.func79 dc79 200 fun args h K hc hS => by
  obtain ⟨s, rfl, hR⟩ := slotF_spec hS
  clear hS
  simp only [spec_ok] at hR
  obtain ⟨c, p, n, q⟩ := s
  have hR : K (.s (.b (!(c.ty == 0 && !(Slot.mk c p n q).isZ) && (rightB c && (linkB p && (linkB n && (decide (0 ≤ q) && decide (q < 65536)))))))) h := hR
  have ez : (c.ty == 0 && (c.obj == 0 && (c.bits == 0 && (c.mark == 0 && (c.guard == 0 && (c.gbits == 0 && (c.badge == 0 && (c.rights == 0 && (c.asid == 0 && (c.vaddr == 0 && (c.line == 0 && (p == 0 && (n == 0 && q == 0))))))))))))) = (Slot.mk c p n q).isZ := rfl
  simp only [Slot.cl]
  by_cases h0 : c.ty = 0
  · have hne : (c.ty != 0) = false := by simp [h0]
    cases hz : (Slot.mk c p n q).isZ <;> cases hr : rightB c <;> cases hp : linkB p <;> cases hn : linkB n
    all_goals simp only [hz, hr, hp, hn, h0, beq_self_eq_true, Bool.not_true, Bool.not_false, Bool.true_and, Bool.and_true, Bool.false_and, Bool.and_false] at hR
    all_goals by_cases hq : q < 0
    all_goals (try have hq1 : ¬ 0 ≤ q := by omega)
    all_goals (try have hq1 : 0 ≤ q := by omega)
    all_goals by_cases hq2 : 65535 < q
    all_goals try (exfalso; omega)
    all_goals (try have hq3 : ¬ q < 65536 := by omega)
    all_goals (try have hq3 : q < 65536 := by omega)
    all_goals try simp only [hq1, hq3, decide_true, decide_false, Bool.true_and, Bool.and_true, Bool.false_and, Bool.and_false] at hR
    all_goals (simp (config := { maxSteps := 10000000 }) only [EV1, EV2, EV3, EV4, EV5, EV6, addT, istep, pickR, putD, bin1R, un1R, slcR, bnd, capsOf, fillP, V.plain, V.cells, V.known, C.v, blk, setL, setH, eqS, eq1, cmpS, cmp1, isNil, popTo, killT, setT, leT, V.below, S.below, R.below, V.val, C.val, S.val, R.val, R.takes, vals, shows, unnamed, V.kill, V.names, C.names, S.names, R.names, List.set, List.replicate, ↓q_cond_t, ↓q_cond_f, if_true, if_false, reduceCtorEq, rvals, rvC, result, C.known, V.noL, C.noL, S.noL, R.noL, Option.map, true_and, and_true, ge_iff_le, gt_iff_lt, implies_true, q_ite_t, q_ite_f, beq_iff_eq, bne_iff_ne, q_ne, Nat.reduceAdd, Nat.reducePow, Int.reducePow, Nat.reduceMul, Nat.reduceSub, Nat.reduceLeDiff, Nat.reduceLT, Nat.reduceEqDiff, Int.reduceNeg, Int.reduceLT, Int.reduceLE, Int.reduceEq, Int.reduceNe, Int.reduceAdd, Int.reduceSub, Int.reduceMul, Int.reduceToNat, Int.reduceBEq, Int.reduceBNe, df79, TSr, linkG, rightG, capF, cap_eta, ez, hne, hz, hr, hp, hn, hq, hq1, hq2, hq3, put, fillP, sub, List.take_succ_cons, List.take_zero, List.drop_zero])
    all_goals first | exact hR | exact ⟨fun _ => hR, fun _ => hR⟩ | exact ⟨fun _ => hR, fun x => absurd h0 x⟩
  · have h1 : (c.ty == 0) = false := by simpa using h0
    have hne : (c.ty != 0) = true := by simpa using h0
    cases hr : rightB c <;> cases hp : linkB p <;> cases hn : linkB n
    all_goals simp only [hr, hp, hn, h1, Bool.not_true, Bool.not_false, Bool.true_and, Bool.and_true, Bool.false_and, Bool.and_false] at hR
    all_goals by_cases hq : q < 0
    all_goals (try have hq1 : ¬ 0 ≤ q := by omega)
    all_goals (try have hq1 : 0 ≤ q := by omega)
    all_goals by_cases hq2 : 65535 < q
    all_goals try (exfalso; omega)
    all_goals (try have hq3 : ¬ q < 65536 := by omega)
    all_goals (try have hq3 : q < 65536 := by omega)
    all_goals try simp only [hq1, hq3, decide_true, decide_false, Bool.true_and, Bool.and_true, Bool.false_and, Bool.and_false] at hR
    all_goals (simp (config := { maxSteps := 10000000 }) only [EV1, EV2, EV3, EV4, EV5, EV6, addT, istep, pickR, putD, bin1R, un1R, slcR, bnd, capsOf, fillP, V.plain, V.cells, V.known, C.v, blk, setL, setH, eqS, eq1, cmpS, cmp1, isNil, popTo, killT, setT, leT, V.below, S.below, R.below, V.val, C.val, S.val, R.val, R.takes, vals, shows, unnamed, V.kill, V.names, C.names, S.names, R.names, List.set, List.replicate, ↓q_cond_t, ↓q_cond_f, if_true, if_false, reduceCtorEq, rvals, rvC, result, C.known, V.noL, C.noL, S.noL, R.noL, Option.map, true_and, and_true, ge_iff_le, gt_iff_lt, implies_true, q_ite_t, q_ite_f, beq_iff_eq, bne_iff_ne, q_ne, Nat.reduceAdd, Nat.reducePow, Int.reducePow, Nat.reduceMul, Nat.reduceSub, Nat.reduceLeDiff, Nat.reduceLT, Nat.reduceEqDiff, Int.reduceNeg, Int.reduceLT, Int.reduceLE, Int.reduceEq, Int.reduceNe, Int.reduceAdd, Int.reduceSub, Int.reduceMul, Int.reduceToNat, Int.reduceBEq, Int.reduceBNe, df79, TSr, linkG, rightG, capF, cap_eta, h0, h1, hne, hr, hp, hn, hq, hq1, hq2, hq3, put, fillP, sub, List.take_succ_cons, List.take_zero, List.drop_zero])
    all_goals exact hR

/-- Is there a slot? -/
def thereB (m : M) (a : Int) : Bool := decide (4 ≤ a) && (a.tmod 4 == 0 && decide (a ≤ m.w.length - 4))
def sthereM (b : Nat) (m : M) (st : M → List Blk) : List V → Res
  | [.s (.i .i64 a)] => .ok (.s (.b (thereB m a))) [] (st m)
  | _ => .bad
noncomputable def sthereG := memF sthereM
noncomputable def TMw2 : Tab := addT 90 wordsG (addT 91 thereG noT)
theorem TMw2_snd : TMw2.Snd Try.prog := addT_snd ok90 mwords_snd (addT_snd ok91 rthere_snd (noT_snd _))
theorem sthere_snd : Snd Try.prog 70 (FSpec.of sthereG) := snd_run TMw2_snd mixed Try.func70 dc70 100 fun args h K hc hS => by
  obtain ⟨a, b, m, rest, rfl, H, hS1⟩ := memF_spec hS
  clear hS
  have hS := hS1
  clear hS1
  unfold sthereM at hS
  split at hS
  · rename_i x
    simp only [spec_ok, setM_self H, thereB] at hS
    have hl := m.l
    have w1 : IntKind.i64.wrap ((m.w.length : Int) - 4) = m.w.length - 4 := wrap64 (by omega) (by omega)
    by_cases c1 : 4 ≤ x
    · by_cases c2 : x.tmod 4 = 0
      · simp only [c1, c2, decide_true, Bool.true_and, beq_self_eq_true] at hS
        simp (config := { maxSteps := 10000000 }) only [EV1, EV2, EV3, EV4, EV5, EV6, addT, istep, pickR, putD, bin1R, un1R, slcR, bnd, capsOf, fillP, V.plain, V.cells, V.known, C.v, blk, setL, setH, eqS, eq1, cmpS, cmp1, isNil, popTo, killT, setT, leT, V.below, S.below, R.below, V.val, C.val, S.val, R.val, R.takes, vals, shows, unnamed, V.kill, V.names, C.names, S.names, R.names, List.set, List.replicate, ↓q_cond_t, ↓q_cond_f, if_true, if_false, reduceCtorEq, rvals, rvC, result, C.known, V.noL, C.noL, S.noL, R.noL, Option.map, true_and, and_true, ge_iff_le, gt_iff_lt, implies_true, q_ite_t, q_ite_f, beq_iff_eq, bne_iff_ne, q_ne, Nat.reduceAdd, Nat.reducePow, Int.reducePow, Nat.reduceMul, Nat.reduceSub, Nat.reduceLeDiff, Nat.reduceLT, Nat.reduceEqDiff, Int.reduceNeg, Int.reduceLT, Int.reduceLE, Int.reduceEq, Int.reduceNe, Int.reduceAdd, Int.reduceSub, Int.reduceMul, Int.reduceToNat, Int.reduceBEq, Int.reduceBNe, df70, TMw2, wordsG, memF_eq H, wordsM, setM_self H, c1, c2, w1]
        exact hS
      · have c3 : (x.tmod 4 == 0) = false := by simpa using c2
        simp only [c1, c3, decide_true, Bool.true_and, Bool.false_and] at hS
        simp (config := { maxSteps := 10000000 }) only [EV1, EV2, EV3, EV4, EV5, EV6, addT, istep, pickR, putD, bin1R, un1R, slcR, bnd, capsOf, fillP, V.plain, V.cells, V.known, C.v, blk, setL, setH, eqS, eq1, cmpS, cmp1, isNil, popTo, killT, setT, leT, V.below, S.below, R.below, V.val, C.val, S.val, R.val, R.takes, vals, shows, unnamed, V.kill, V.names, C.names, S.names, R.names, List.set, List.replicate, ↓q_cond_t, ↓q_cond_f, if_true, if_false, reduceCtorEq, rvals, rvC, result, C.known, V.noL, C.noL, S.noL, R.noL, Option.map, true_and, and_true, ge_iff_le, gt_iff_lt, implies_true, q_ite_t, q_ite_f, beq_iff_eq, bne_iff_ne, q_ne, Nat.reduceAdd, Nat.reducePow, Int.reducePow, Nat.reduceMul, Nat.reduceSub, Nat.reduceLeDiff, Nat.reduceLT, Nat.reduceEqDiff, Int.reduceNeg, Int.reduceLT, Int.reduceLE, Int.reduceEq, Int.reduceNe, Int.reduceAdd, Int.reduceSub, Int.reduceMul, Int.reduceToNat, Int.reduceBEq, Int.reduceBNe, df70, TMw2, wordsG, memF_eq H, wordsM, setM_self H, c1, c2, c3, w1]
        exact hS
    · simp only [c1, decide_false, Bool.false_and] at hS
      simp (config := { maxSteps := 10000000 }) only [EV1, EV2, EV3, EV4, EV5, EV6, addT, istep, pickR, putD, bin1R, un1R, slcR, bnd, capsOf, fillP, V.plain, V.cells, V.known, C.v, blk, setL, setH, eqS, eq1, cmpS, cmp1, isNil, popTo, killT, setT, leT, V.below, S.below, R.below, V.val, C.val, S.val, R.val, R.takes, vals, shows, unnamed, V.kill, V.names, C.names, S.names, R.names, List.set, List.replicate, ↓q_cond_t, ↓q_cond_f, if_true, if_false, reduceCtorEq, rvals, rvC, result, C.known, V.noL, C.noL, S.noL, R.noL, Option.map, true_and, and_true, ge_iff_le, gt_iff_lt, implies_true, q_ite_t, q_ite_f, beq_iff_eq, bne_iff_ne, q_ne, Nat.reduceAdd, Nat.reducePow, Int.reducePow, Nat.reduceMul, Nat.reduceSub, Nat.reduceLeDiff, Nat.reduceLT, Nat.reduceEqDiff, Int.reduceNeg, Int.reduceLT, Int.reduceLE, Int.reduceEq, Int.reduceNe, Int.reduceAdd, Int.reduceSub, Int.reduceMul, Int.reduceToNat, Int.reduceBEq, Int.reduceBNe, df70, TMw2, wordsG, memF_eq H, wordsM, setM_self H, c1]
      exact hS
  · exact hS.elim
theorem there_has (m : M) (a : Int) : (m.has a 4 && (decide (4 ≤ a) && a.tmod 4 == 0)) = thereB m a := by
  have hl := m.l
  rw [Bool.eq_iff_iff]
  simp only [M.has, thereB, Bool.and_eq_true, decide_eq_true_eq, beq_iff_eq]
  omega
theorem rat_snd : Snd Try.prog 93 (FSpec.of sthereG) := snd_run TMw2_snd mixed Try.func93 dc93 100 fun args h K hc hS => by
  obtain ⟨a, b, m, rest, rfl, H, hS1⟩ := memF_spec hS
  clear hS
  have hS := hS1
  clear hS1
  unfold sthereM at hS
  split at hS
  · rename_i x
    simp only [spec_ok, setM_self H, ← there_has] at hS
    cases hh : m.has x 4
    · simp only [hh, Bool.false_and] at hS
      simp (config := { maxSteps := 10000000 }) only [EV1, EV2, EV3, EV4, EV5, EV6, addT, istep, pickR, putD, bin1R, un1R, slcR, bnd, capsOf, fillP, V.plain, V.cells, V.known, C.v, blk, setL, setH, eqS, eq1, cmpS, cmp1, isNil, popTo, killT, setT, leT, V.below, S.below, R.below, V.val, C.val, S.val, R.val, R.takes, vals, shows, unnamed, V.kill, V.names, C.names, S.names, R.names, List.set, List.replicate, ↓q_cond_t, ↓q_cond_f, if_true, if_false, reduceCtorEq, rvals, rvC, result, C.known, V.noL, C.noL, S.noL, R.noL, Option.map, true_and, and_true, ge_iff_le, gt_iff_lt, implies_true, q_ite_t, q_ite_f, beq_iff_eq, bne_iff_ne, q_ne, Nat.reduceAdd, Nat.reducePow, Int.reducePow, Nat.reduceMul, Nat.reduceSub, Nat.reduceLeDiff, Nat.reduceLT, Nat.reduceEqDiff, Int.reduceNeg, Int.reduceLT, Int.reduceLE, Int.reduceEq, Int.reduceNe, Int.reduceAdd, Int.reduceSub, Int.reduceMul, Int.reduceToNat, Int.reduceBEq, Int.reduceBNe, df93, TMw2, thereG, memF_eq H, thereM, setM_self H, hh]
      exact hS
    · simp only [hh, Bool.true_and] at hS
      simp (config := { maxSteps := 10000000 }) only [EV1, EV2, EV3, EV4, EV5, EV6, addT, istep, pickR, putD, bin1R, un1R, slcR, bnd, capsOf, fillP, V.plain, V.cells, V.known, C.v, blk, setL, setH, eqS, eq1, cmpS, cmp1, isNil, popTo, killT, setT, leT, V.below, S.below, R.below, V.val, C.val, S.val, R.val, R.takes, vals, shows, unnamed, V.kill, V.names, C.names, S.names, R.names, List.set, List.replicate, ↓q_cond_t, ↓q_cond_f, if_true, if_false, reduceCtorEq, rvals, rvC, result, C.known, V.noL, C.noL, S.noL, R.noL, Option.map, true_and, and_true, ge_iff_le, gt_iff_lt, implies_true, q_ite_t, q_ite_f, beq_iff_eq, bne_iff_ne, q_ne, Nat.reduceAdd, Nat.reducePow, Int.reducePow, Nat.reduceMul, Nat.reduceSub, Nat.reduceLeDiff, Nat.reduceLT, Nat.reduceEqDiff, Int.reduceNeg, Int.reduceLT, Int.reduceLE, Int.reduceEq, Int.reduceNe, Int.reduceAdd, Int.reduceSub, Int.reduceMul, Int.reduceToNat, Int.reduceBEq, Int.reduceBNe, df93, TMw2, thereG, memF_eq H, thereM, setM_self H, hh]
      exact hS
  · exact hS.elim
end Go.Proofs.Ythegocjfnjfkdaa

