/- Fields of 64 bits, as numbers. -/
import Derived.Laws.BitsLemmas
import Derived.Laws.Bits64b
import Derived.Lib.EndianBits
namespace Go.D
set_option linter.all false

theorem c_div (a k : Nat) : ((a / 2 ^ k : Nat) : Int) = (a : Int) / 2 ^ k := by
  rw [Int.natCast_ediv, Int.natCast_pow]; rfl
theorem c_mul (a k : Nat) : ((a * 2 ^ k : Nat) : Int) = (a : Int) * 2 ^ k := by
  rw [Int.natCast_mul, Int.natCast_pow]; rfl
theorem c_mod (a m : Nat) : ((a % m : Nat) : Int) = (a : Int) % (m : Int) := Int.natCast_emod a m

theorem nat_and_field (w k n : Nat) : w &&& ((2 ^ n - 1) * 2 ^ k) = w / 2 ^ k % 2 ^ n * 2 ^ k := by
  apply Nat.eq_of_testBit_eq
  intro i
  rw [Nat.testBit_and, Nat.testBit_mul_two_pow, Nat.testBit_mul_two_pow, Nat.testBit_two_pow_sub_one, Nat.testBit_mod_two_pow, Nat.testBit_div_two_pow]
  by_cases h : k ≤ i
  · have e : i - k + k = i := by omega
    simp only [h, decide_true, Bool.true_and, e]
    rw [Bool.and_comm]
  · simp [h]

/-- A word with a field of noughts. -/
def clr (w k n : Nat) : Nat := 2 ^ (k + n) * (w / 2 ^ (k + n)) + w % 2 ^ k

theorem clr_testBit (w k n i : Nat) : (clr w k n).testBit i = (w.testBit i && !(decide (k ≤ i) && decide (i < k + n))) := by
  unfold clr
  have hlt : w % 2 ^ k < 2 ^ (k + n) := Nat.lt_of_lt_of_le (Nat.mod_lt _ (Nat.two_pow_pos k)) (Nat.pow_le_pow_right (by decide) (by omega))
  rw [Nat.testBit_two_pow_mul_add _ hlt, Nat.testBit_mod_two_pow, Nat.testBit_div_two_pow]
  by_cases h1 : i < k + n
  · by_cases h2 : k ≤ i
    · simp [h1, h2]; intro h; omega
    · have : i < k := by omega
      simp [h1, h2, this]
  · have h2 : k ≤ i := by omega
    have e : i - (k + n) + (k + n) = i := by omega
    simp [h1, h2, e]

theorem bits_andNot_u64 (a b : Nat) (ha : a < 18446744073709551616) (hb : b < 18446744073709551616) (r : Nat) (h : ∀ i, i < 64 → r.testBit i = (a.testBit i && !b.testBit i)) (hr : r < 18446744073709551616) : bits .andNot .u64 a b = (r : Int) := by
  simp only [bits, BitVec.ofInt_natCast]
  have : (BitVec.ofNat IntKind.u64.bits a &&& ~~~BitVec.ofNat IntKind.u64.bits b).toNat = r := by
    apply Nat.eq_of_testBit_eq
    intro i
    by_cases hi : i < 64
    · rw [BitVec.toNat_and, Nat.testBit_and, BitVec.testBit_toNat, BitVec.testBit_toNat, BitVec.getLsbD_not, h i hi]
      have h1 : (BitVec.ofNat IntKind.u64.bits a).getLsbD i = a.testBit i := by
        rw [BitVec.getLsbD_ofNat]; simp [IntKind.bits, hi]
      have h2 : (BitVec.ofNat IntKind.u64.bits b).getLsbD i = b.testBit i := by
        rw [BitVec.getLsbD_ofNat]; simp [IntKind.bits, hi]
      rw [h1, h2]
      simp [IntKind.bits, hi]
    · have h1 : r.testBit i = false := Nat.testBit_lt_two_pow (Nat.lt_of_lt_of_le hr (by
        calc 18446744073709551616 = 2 ^ 64 := by decide
          _ ≤ 2 ^ i := Nat.pow_le_pow_right (by decide) (by omega)))
      rw [h1]
      refine Nat.testBit_lt_two_pow (Nat.lt_of_lt_of_le (BitVec.isLt _) ?_)
      exact Nat.pow_le_pow_right (by decide) (by show 64 ≤ i; omega)
  rw [this]
  exact wraps_u64 _ (by omega) (by omega)

theorem pow_le64 {k n : Nat} (h : k + n ≤ 64) : 2 ^ (k + n) ≤ 18446744073709551616 := by
  calc 2 ^ (k + n) ≤ 2 ^ 64 := Nat.pow_le_pow_right (by decide) h
    _ = 18446744073709551616 := by decide

theorem mask_lt {k n : Nat} (h : k + n ≤ 64) : (2 ^ n - 1) * 2 ^ k < 18446744073709551616 := by
  have h1 := pow_le64 h
  have h2 : (2 ^ n - 1) * 2 ^ k < 2 ^ n * 2 ^ k := Nat.mul_lt_mul_of_pos_right (by have := Nat.two_pow_pos n; omega) (Nat.two_pow_pos k)
  rw [← Nat.pow_add, Nat.add_comm n k] at h2
  omega

theorem mask_testBit (k n i : Nat) : ((2 ^ n - 1) * 2 ^ k).testBit i = (decide (k ≤ i) && decide (i < k + n)) := by
  rw [Nat.testBit_mul_two_pow, Nat.testBit_two_pow_sub_one]
  by_cases h : k ≤ i
  · simp only [h, decide_true, Bool.true_and]
    congr 1
    rw [eq_iff_iff]; omega
  · simp [h]

/-- The mask of a field. -/
theorem u64_mask {k n : Nat} (h : k + n ≤ 64) : IntKind.u64.wrap (18446744073709551615 / 2 ^ (64 - n) * 2 ^ k) = (((2 ^ n - 1) * 2 ^ k : Nat) : Int) := by
  have e : (18446744073709551615 : Nat) / 2 ^ (64 - n) = 2 ^ n - 1 := by
    have h1 : 2 ^ n * 2 ^ (64 - n) = 18446744073709551616 := by
      rw [← Nat.pow_add]
      have : n + (64 - n) = 64 := by omega
      rw [this]
    have hp := Nat.two_pow_pos (64 - n)
    have hn := Nat.two_pow_pos n
    apply Nat.div_eq_of_lt_le
    · rw [Nat.sub_mul, Nat.one_mul, h1]; omega
    · rw [Nat.sub_add_cancel hn, h1]; omega
  have e2 : (18446744073709551615 / 2 ^ (64 - n) * 2 ^ k : Int) = (((18446744073709551615 : Nat) / 2 ^ (64 - n) * 2 ^ k : Nat) : Int) := by
    rw [c_mul, c_div]; rfl
  rw [e2, e]
  exact wraps_u64 _ (by omega) (by have := mask_lt h; omega)

theorem u64_get {k n w : Nat} (hw : w < 18446744073709551616) (h : k + n ≤ 64) : bits .and .u64 (w : Int) (((2 ^ n - 1) * 2 ^ k : Nat) : Int) / 2 ^ k = ((w / 2 ^ k % 2 ^ n : Nat) : Int) := by
  rw [bits_and_u64_nat w _ hw (mask_lt h), nat_and_field]
  have : ((w / 2 ^ k % 2 ^ n * 2 ^ k : Nat) : Int) / 2 ^ k = ((w / 2 ^ k % 2 ^ n * 2 ^ k / 2 ^ k : Nat) : Int) := (c_div _ _).symm
  rw [this, Nat.mul_div_cancel _ (Nat.two_pow_pos k)]

theorem u64_clr {k n w : Nat} (hw : w < 18446744073709551616) (h : k + n ≤ 64) : bits .andNot .u64 (w : Int) (((2 ^ n - 1) * 2 ^ k : Nat) : Int) = ((clr w k n : Nat) : Int) := by
  refine bits_andNot_u64 w _ hw (mask_lt h) _ (fun i _ => by rw [clr_testBit, mask_testBit]) ?_
  unfold clr
  have h1 := Nat.div_add_mod w (2 ^ (k + n))
  have h2 : w % 2 ^ k ≤ w % 2 ^ (k + n) := by
    rw [Nat.pow_add, Nat.mod_mul]
    omega
  omega

/-- Does a number fit? -/
theorem u64_fits {k n v : Nat} (hv : v < 18446744073709551616) (h : k + n ≤ 64) :
    (IntKind.u64.wrap ((v : Int) * 2 ^ k) / 2 ^ k = (v : Int) ∧ bits .andNot .u64 (IntKind.u64.wrap ((v : Int) * 2 ^ k)) (((2 ^ n - 1) * 2 ^ k : Nat) : Int) = 0) ↔ v < 2 ^ n := by
  have ew : IntKind.u64.wrap ((v : Int) * 2 ^ k) = ((v * 2 ^ k % 18446744073709551616 : Nat) : Int) := by
    rw [IntKind.wrap_u64, c_mod, c_mul]; rfl
  have hlt : v * 2 ^ k % 18446744073709551616 < 18446744073709551616 := Nat.mod_lt _ (by decide)
  rw [ew, u64_clr hlt h]
  have ed : ((v * 2 ^ k % 18446744073709551616 : Nat) : Int) / 2 ^ k = ((v * 2 ^ k % 18446744073709551616 / 2 ^ k : Nat) : Int) := (c_div _ _).symm
  rw [ed]
  have hk := Nat.two_pow_pos k
  have h64 := pow_le64 h
  rw [Nat.pow_add] at h64
  constructor
  · rintro ⟨h1, h2⟩
    have h1 : v * 2 ^ k % 18446744073709551616 / 2 ^ k = v := by exact_mod_cast h1
    have h2 : clr (v * 2 ^ k % 18446744073709551616) k n = 0 := by exact_mod_cast h2
    have h3 : v * 2 ^ k < 18446744073709551616 := by
      rcases Nat.lt_or_ge (v * 2 ^ k) 18446744073709551616 with h | h
      · exact h
      · have h4 : v * 2 ^ k % 18446744073709551616 < v * 2 ^ k := Nat.lt_of_lt_of_le (Nat.mod_lt _ (by decide)) h
        have := (Nat.div_lt_iff_lt_mul hk).2 h4
        omega
    rw [Nat.mod_eq_of_lt h3] at h2
    unfold clr at h2
    have h5 : 2 ^ (k + n) * (v * 2 ^ k / 2 ^ (k + n)) = 0 := by omega
    have h6 : v * 2 ^ k / 2 ^ (k + n) = 0 := by
      rcases Nat.mul_eq_zero.1 h5 with h | h
      · exact absurd h (Nat.pos_iff_ne_zero.1 (Nat.two_pow_pos _))
      · exact h
    have h7 : v * 2 ^ k < 2 ^ (k + n) := by
      rcases Nat.div_eq_zero_iff.1 h6 with h | h
      · exact absurd h (Nat.pos_iff_ne_zero.1 (Nat.two_pow_pos _))
      · exact h
    rw [Nat.add_comm k n, Nat.pow_add] at h7
    exact Nat.lt_of_mul_lt_mul_right h7
  · intro hvn
    have h3 : v * 2 ^ k < 2 ^ k * 2 ^ n := by
      rw [Nat.mul_comm (2 ^ k)]; exact Nat.mul_lt_mul_of_pos_right hvn hk
    have h4 : v * 2 ^ k < 18446744073709551616 := by omega
    rw [Nat.mod_eq_of_lt h4, Nat.mul_div_cancel _ hk]
    refine ⟨rfl, ?_⟩
    unfold clr
    rw [← Nat.pow_add] at h3
    rw [Nat.div_eq_of_lt h3, Nat.mul_mod_left]; rfl

/-- A number laid into a field. -/
theorem u64_set {k n v w : Nat} (hw : w < 18446744073709551616) (hv : v < 2 ^ n) (h : k + n ≤ 64) :
    bits .or .u64 (bits .andNot .u64 (w : Int) (((2 ^ n - 1) * 2 ^ k : Nat) : Int)) (IntKind.u64.wrap ((v : Int) * 2 ^ k)) = ((2 ^ (k + n) * (w / 2 ^ (k + n)) + (2 ^ k * v + w % 2 ^ k) : Nat) : Int) := by
  have hk := Nat.two_pow_pos k
  have h64 := pow_le64 h
  have h3 : 2 ^ k * v < 2 ^ (k + n) := by
    rw [Nat.pow_add]; exact Nat.mul_lt_mul_of_pos_left hv hk
  have hr : w % 2 ^ k < 2 ^ k := Nat.mod_lt _ hk
  have ew : IntKind.u64.wrap ((v : Int) * 2 ^ k) = ((2 ^ k * v : Nat) : Int) := by
    rw [Nat.mul_comm, ← c_mul]
    exact wraps_u64 _ (by omega) (by have : v * 2 ^ k = 2 ^ k * v := Nat.mul_comm _ _; omega)
  have hc : clr w k n < 18446744073709551616 := by
    unfold clr
    have h1 := Nat.div_add_mod w (2 ^ (k + n))
    have h2 : w % 2 ^ k ≤ w % 2 ^ (k + n) := by
      rw [Nat.pow_add, Nat.mod_mul]
      omega
    omega
  have hin : 2 ^ k * v + w % 2 ^ k < 2 ^ (k + n) := by
    have : 2 ^ k * (v + 1) ≤ 2 ^ k * 2 ^ n := Nat.mul_le_mul_left _ hv
    rw [← Nat.pow_add, Nat.mul_add] at this
    omega
  rw [u64_clr hw h, ew, bits_or_u64_nat _ _ hc (by omega)]
  congr 1
  apply Nat.eq_of_testBit_eq
  intro i
  rw [Nat.testBit_or, clr_testBit, Nat.testBit_two_pow_mul_add _ hin, Nat.testBit_two_pow_mul_add _ hr, Nat.testBit_mod_two_pow, Nat.testBit_div_two_pow]
  have e : (2 ^ k * v).testBit i = (decide (k ≤ i) && v.testBit (i - k)) := by
    rw [Nat.mul_comm, Nat.testBit_mul_two_pow]
  rw [e]
  by_cases h1 : i < k + n
  · by_cases h2 : k ≤ i
    · have : ¬ i < k := by omega
      simp [h1, h2, this]
    · have : i < k := by omega
      simp [h1, h2, this]
  · have h2 : k ≤ i := by omega
    have e2 : i - (k + n) + (k + n) = i := by omega
    have e3 : v.testBit (i - k) = false := Nat.testBit_lt_two_pow (Nat.lt_of_lt_of_le hv (Nat.pow_le_pow_right (by decide) (by omega)))
    simp [h1, h2, e2, e3]

end Go.D
