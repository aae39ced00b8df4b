/- Package word: what its functions answer. -/
import Derived.Laws.BitsLemmas
import Derived.Laws.Bits64b
import Derived.Lib.EndianBits
import Derived.Test.YtmchhjjdlcmhoaaDoorZ13
import Derived.Test.YtmchhjjdlcmhoaaDoorZ12
import Derived.Test.YtmchhjjdlcmhoaaDoorZ0
import Derived.Test.YtmchhjjdlcmhoaaDoorZ1
/- Fields of 64 bits, as numbers. -/
namespace Go.D
set_option linter.all false

theorem c_div (a k : Nat) : ((a / 2 ^ k : Nat) : Int) = (a : Int) / 2 ^ k := by
  rw [Int.natCast_ediv, Int.natCast_pow]; rfl
theorem c_mul (a k : Nat) : ((a * 2 ^ k : Nat) : Int) = (a : Int) * 2 ^ k := by
  rw [Int.natCast_mul, Int.natCast_pow]; rfl
theorem c_mod (a m : Nat) : ((a % m : Nat) : Int) = (a : Int) % (m : Int) := Int.natCast_emod a m

theorem nat_and_field (w k n : Nat) : w &&& ((2 ^ n - 1) * 2 ^ k) = w / 2 ^ k % 2 ^ n * 2 ^ k := by
  apply Nat.eq_of_testBit_eq
  intro i
  rw [Nat.testBit_and, Nat.testBit_mul_two_pow, Nat.testBit_mul_two_pow, Nat.testBit_two_pow_sub_one, Nat.testBit_mod_two_pow, Nat.testBit_div_two_pow]
  by_cases h : k ≤ i
  · have e : i - k + k = i := by omega
    simp only [h, decide_true, Bool.true_and, e]
    rw [Bool.and_comm]
  · simp [h]

/-- A word with a field of noughts. -/
def clr (w k n : Nat) : Nat := 2 ^ (k + n) * (w / 2 ^ (k + n)) + w % 2 ^ k

theorem clr_testBit (w k n i : Nat) : (clr w k n).testBit i = (w.testBit i && !(decide (k ≤ i) && decide (i < k + n))) := by
  unfold clr
  have hlt : w % 2 ^ k < 2 ^ (k + n) := Nat.lt_of_lt_of_le (Nat.mod_lt _ (Nat.two_pow_pos k)) (Nat.pow_le_pow_right (by decide) (by omega))
  rw [Nat.testBit_two_pow_mul_add _ hlt, Nat.testBit_mod_two_pow, Nat.testBit_div_two_pow]
  by_cases h1 : i < k + n
  · by_cases h2 : k ≤ i
    · simp [h1, h2]; intro h; omega
    · have : i < k := by omega
      simp [h1, h2, this]
  · have h2 : k ≤ i := by omega
    have e : i - (k + n) + (k + n) = i := by omega
    simp [h1, h2, e]

theorem bits_andNot_u64 (a b : Nat) (ha : a < 18446744073709551616) (hb : b < 18446744073709551616) (r : Nat) (h : ∀ i, i < 64 → r.testBit i = (a.testBit i && !b.testBit i)) (hr : r < 18446744073709551616) : bits .andNot .u64 a b = (r : Int) := by
  simp only [bits, BitVec.ofInt_natCast]
  have : (BitVec.ofNat IntKind.u64.bits a &&& ~~~BitVec.ofNat IntKind.u64.bits b).toNat = r := by
    apply Nat.eq_of_testBit_eq
    intro i
    by_cases hi : i < 64
    · rw [BitVec.toNat_and, Nat.testBit_and, BitVec.testBit_toNat, BitVec.testBit_toNat, BitVec.getLsbD_not, h i hi]
      have h1 : (BitVec.ofNat IntKind.u64.bits a).getLsbD i = a.testBit i := by
        rw [BitVec.getLsbD_ofNat]; simp [IntKind.bits, hi]
      have h2 : (BitVec.ofNat IntKind.u64.bits b).getLsbD i = b.testBit i := by
        rw [BitVec.getLsbD_ofNat]; simp [IntKind.bits, hi]
      rw [h1, h2]
      simp [IntKind.bits, hi]
    · have h1 : r.testBit i = false := Nat.testBit_lt_two_pow (Nat.lt_of_lt_of_le hr (by
        calc 18446744073709551616 = 2 ^ 64 := by decide
          _ ≤ 2 ^ i := Nat.pow_le_pow_right (by decide) (by omega)))
      rw [h1]
      refine Nat.testBit_lt_two_pow (Nat.lt_of_lt_of_le (BitVec.isLt _) ?_)
      exact Nat.pow_le_pow_right (by decide) (by show 64 ≤ i; omega)
  rw [this]
  exact wraps_u64 _ (by omega) (by omega)

theorem pow_le64 {k n : Nat} (h : k + n ≤ 64) : 2 ^ (k + n) ≤ 18446744073709551616 := by
  calc 2 ^ (k + n) ≤ 2 ^ 64 := Nat.pow_le_pow_right (by decide) h
    _ = 18446744073709551616 := by decide

theorem mask_lt {k n : Nat} (h : k + n ≤ 64) : (2 ^ n - 1) * 2 ^ k < 18446744073709551616 := by
  have h1 := pow_le64 h
  have h2 : (2 ^ n - 1) * 2 ^ k < 2 ^ n * 2 ^ k := Nat.mul_lt_mul_of_pos_right (by have := Nat.two_pow_pos n; omega) (Nat.two_pow_pos k)
  rw [← Nat.pow_add, Nat.add_comm n k] at h2
  omega

theorem mask_testBit (k n i : Nat) : ((2 ^ n - 1) * 2 ^ k).testBit i = (decide (k ≤ i) && decide (i < k + n)) := by
  rw [Nat.testBit_mul_two_pow, Nat.testBit_two_pow_sub_one]
  by_cases h : k ≤ i
  · simp only [h, decide_true, Bool.true_and]
    congr 1
    rw [eq_iff_iff]; omega
  · simp [h]

/-- The mask of a field. -/
theorem u64_mask {k n : Nat} (h : k + n ≤ 64) : IntKind.u64.wrap (18446744073709551615 / 2 ^ (64 - n) * 2 ^ k) = (((2 ^ n - 1) * 2 ^ k : Nat) : Int) := by
  have e : (18446744073709551615 : Nat) / 2 ^ (64 - n) = 2 ^ n - 1 := by
    have h1 : 2 ^ n * 2 ^ (64 - n) = 18446744073709551616 := by
      rw [← Nat.pow_add]
      have : n + (64 - n) = 64 := by omega
      rw [this]
    have hp := Nat.two_pow_pos (64 - n)
    have hn := Nat.two_pow_pos n
    apply Nat.div_eq_of_lt_le
    · rw [Nat.sub_mul, Nat.one_mul, h1]; omega
    · rw [Nat.sub_add_cancel hn, h1]; omega
  have e2 : (18446744073709551615 / 2 ^ (64 - n) * 2 ^ k : Int) = (((18446744073709551615 : Nat) / 2 ^ (64 - n) * 2 ^ k : Nat) : Int) := by
    rw [c_mul, c_div]; rfl
  rw [e2, e]
  exact wraps_u64 _ (by omega) (by have := mask_lt h; omega)

theorem u64_get {k n w : Nat} (hw : w < 18446744073709551616) (h : k + n ≤ 64) : bits .and .u64 (w : Int) (((2 ^ n - 1) * 2 ^ k : Nat) : Int) / 2 ^ k = ((w / 2 ^ k % 2 ^ n : Nat) : Int) := by
  rw [bits_and_u64_nat w _ hw (mask_lt h), nat_and_field]
  have : ((w / 2 ^ k % 2 ^ n * 2 ^ k : Nat) : Int) / 2 ^ k = ((w / 2 ^ k % 2 ^ n * 2 ^ k / 2 ^ k : Nat) : Int) := (c_div _ _).symm
  rw [this, Nat.mul_div_cancel _ (Nat.two_pow_pos k)]

theorem u64_clr {k n w : Nat} (hw : w < 18446744073709551616) (h : k + n ≤ 64) : bits .andNot .u64 (w : Int) (((2 ^ n - 1) * 2 ^ k : Nat) : Int) = ((clr w k n : Nat) : Int) := by
  refine bits_andNot_u64 w _ hw (mask_lt h) _ (fun i _ => by rw [clr_testBit, mask_testBit]) ?_
  unfold clr
  have h1 := Nat.div_add_mod w (2 ^ (k + n))
  have h2 : w % 2 ^ k ≤ w % 2 ^ (k + n) := by
    rw [Nat.pow_add, Nat.mod_mul]
    omega
  omega

/-- Does a number fit? -/
theorem u64_fits {k n v : Nat} (hv : v < 18446744073709551616) (h : k + n ≤ 64) :
    (IntKind.u64.wrap ((v : Int) * 2 ^ k) / 2 ^ k = (v : Int) ∧ bits .andNot .u64 (IntKind.u64.wrap ((v : Int) * 2 ^ k)) (((2 ^ n - 1) * 2 ^ k : Nat) : Int) = 0) ↔ v < 2 ^ n := by
  have ew : IntKind.u64.wrap ((v : Int) * 2 ^ k) = ((v * 2 ^ k % 18446744073709551616 : Nat) : Int) := by
    rw [IntKind.wrap_u64, c_mod, c_mul]; rfl
  have hlt : v * 2 ^ k % 18446744073709551616 < 18446744073709551616 := Nat.mod_lt _ (by decide)
  rw [ew, u64_clr hlt h]
  have ed : ((v * 2 ^ k % 18446744073709551616 : Nat) : Int) / 2 ^ k = ((v * 2 ^ k % 18446744073709551616 / 2 ^ k : Nat) : Int) := (c_div _ _).symm
  rw [ed]
  have hk := Nat.two_pow_pos k
  have h64 := pow_le64 h
  rw [Nat.pow_add] at h64
  constructor
  · rintro ⟨h1, h2⟩
    have h1 : v * 2 ^ k % 18446744073709551616 / 2 ^ k = v := by exact_mod_cast h1
    have h2 : clr (v * 2 ^ k % 18446744073709551616) k n = 0 := by exact_mod_cast h2
    have h3 : v * 2 ^ k < 18446744073709551616 := by
      rcases Nat.lt_or_ge (v * 2 ^ k) 18446744073709551616 with h | h
      · exact h
      · have h4 : v * 2 ^ k % 18446744073709551616 < v * 2 ^ k := Nat.lt_of_lt_of_le (Nat.mod_lt _ (by decide)) h
        have := (Nat.div_lt_iff_lt_mul hk).2 h4
        omega
    rw [Nat.mod_eq_of_lt h3] at h2
    unfold clr at h2
    have h5 : 2 ^ (k + n) * (v * 2 ^ k / 2 ^ (k + n)) = 0 := by omega
    have h6 : v * 2 ^ k / 2 ^ (k + n) = 0 := by
      rcases Nat.mul_eq_zero.1 h5 with h | h
      · exact absurd h (Nat.pos_iff_ne_zero.1 (Nat.two_pow_pos _))
      · exact h
    have h7 : v * 2 ^ k < 2 ^ (k + n) := by
      rcases Nat.div_eq_zero_iff.1 h6 with h | h
      · exact absurd h (Nat.pos_iff_ne_zero.1 (Nat.two_pow_pos _))
      · exact h
    rw [Nat.add_comm k n, Nat.pow_add] at h7
    exact Nat.lt_of_mul_lt_mul_right h7
  · intro hvn
    have h3 : v * 2 ^ k < 2 ^ k * 2 ^ n := by
      rw [Nat.mul_comm (2 ^ k)]; exact Nat.mul_lt_mul_of_pos_right hvn hk
    have h4 : v * 2 ^ k < 18446744073709551616 := by omega
    rw [Nat.mod_eq_of_lt h4, Nat.mul_div_cancel _ hk]
    refine ⟨rfl, ?_⟩
    unfold clr
    rw [← Nat.pow_add] at h3
    rw [Nat.div_eq_of_lt h3, Nat.mul_mod_left]; rfl

/-- A number laid into a field. -/
theorem u64_set {k n v w : Nat} (hw : w < 18446744073709551616) (hv : v < 2 ^ n) (h : k + n ≤ 64) :
    bits .or .u64 (bits .andNot .u64 (w : Int) (((2 ^ n - 1) * 2 ^ k : Nat) : Int)) (IntKind.u64.wrap ((v : Int) * 2 ^ k)) = ((2 ^ (k + n) * (w / 2 ^ (k + n)) + (2 ^ k * v + w % 2 ^ k) : Nat) : Int) := by
  have hk := Nat.two_pow_pos k
  have h64 := pow_le64 h
  have h3 : 2 ^ k * v < 2 ^ (k + n) := by
    rw [Nat.pow_add]; exact Nat.mul_lt_mul_of_pos_left hv hk
  have hr : w % 2 ^ k < 2 ^ k := Nat.mod_lt _ hk
  have ew : IntKind.u64.wrap ((v : Int) * 2 ^ k) = ((2 ^ k * v : Nat) : Int) := by
    rw [Nat.mul_comm, ← c_mul]
    exact wraps_u64 _ (by omega) (by have : v * 2 ^ k = 2 ^ k * v := Nat.mul_comm _ _; omega)
  have hc : clr w k n < 18446744073709551616 := by
    unfold clr
    have h1 := Nat.div_add_mod w (2 ^ (k + n))
    have h2 : w % 2 ^ k ≤ w % 2 ^ (k + n) := by
      rw [Nat.pow_add, Nat.mod_mul]
      omega
    omega
  have hin : 2 ^ k * v + w % 2 ^ k < 2 ^ (k + n) := by
    have : 2 ^ k * (v + 1) ≤ 2 ^ k * 2 ^ n := Nat.mul_le_mul_left _ hv
    rw [← Nat.pow_add, Nat.mul_add] at this
    omega
  rw [u64_clr hw h, ew, bits_or_u64_nat _ _ hc (by omega)]
  congr 1
  apply Nat.eq_of_testBit_eq
  intro i
  rw [Nat.testBit_or, clr_testBit, Nat.testBit_two_pow_mul_add _ hin, Nat.testBit_two_pow_mul_add _ hr, Nat.testBit_mod_two_pow, Nat.testBit_div_two_pow]
  have e : (2 ^ k * v).testBit i = (decide (k ≤ i) && v.testBit (i - k)) := by
    rw [Nat.mul_comm, Nat.testBit_mul_two_pow]
  rw [e]
  by_cases h1 : i < k + n
  · by_cases h2 : k ≤ i
    · have : ¬ i < k := by omega
      simp [h1, h2, this]
    · have : i < k := by omega
      simp [h1, h2, this]
  · have h2 : k ≤ i := by omega
    have e2 : i - (k + n) + (k + n) = i := by omega
    have e3 : v.testBit (i - k) = false := Nat.testBit_lt_two_pow (Nat.lt_of_lt_of_le hv (Nat.pow_le_pow_right (by decide) (by omega)))
    simp [h1, h2, e2, e3]

end Go.D

/- Words: plain facts. -/
namespace Go.Proofs.YtmchhjjdlcmhoaaDoor
open Go.D
set_option linter.all false
set_option maxRecDepth 100000
set_option maxHeartbeats 4000000

/-- What a loop's counter tells. -/
theorem idx {i n : Nat} (h : i < n) (hn : n ≤ 9223372036854775807) : ((i : Int) < (n : Int)) ∧ ((0 : Int) ≤ i) ∧ ¬ ((i : Int) < 0) ∧ IntKind.i64.wrap ((i : Int) + 1) = ((i + 1 : Nat) : Int) := by
  refine ⟨by omega, by omega, by omega, ?_⟩
  rw [wrap64] <;> omega

/-- A word. -/
def u64 (w : Int) : Prop := 0 ≤ w ∧ w < 18446744073709551616
theorem u64.nat {w : Int} (h : u64 w) : ∃ n : Nat, w = n ∧ n < 18446744073709551616 := ⟨w.toNat, by have := h.1; omega, by have := h.1; have := h.2; omega⟩
theorem u64_of {n : Nat} (h : n < 18446744073709551616) : u64 n := ⟨by omega, by omega⟩

end Go.Proofs.YtmchhjjdlcmhoaaDoor

/- Counting the bits of a word, eight at a time: the plain law of math/bits.OnesCount64's steps. -/
set_option linter.all false
namespace Go.Proofs.YtmchhjjdlcmhoaaDoor.Pop
theorem land256 (a b c d : Nat) (ha : a < 256) (hc : c < 256) : (a + 256 * b) &&& (c + 256 * d) = (a &&& c) + 256 * (b &&& d) := by
  have h1 : a &&& c < 2 ^ 8 := Nat.lt_of_le_of_lt Nat.and_le_left ha
  rw [Nat.add_comm a, Nat.add_comm c, Nat.add_comm (a &&& c), show 256 = 2 ^ 8 from rfl]
  apply Nat.eq_of_testBit_eq
  intro j
  rw [Nat.testBit_and, Nat.testBit_two_pow_mul_add _ ha, Nat.testBit_two_pow_mul_add _ hc, Nat.testBit_two_pow_mul_add _ h1]
  split
  · rw [Nat.testBit_and]
  · rw [Nat.testBit_and]
def rep (c : Nat) : Nat → Nat
  | 0 => 0
  | n + 1 => c + 256 * rep c n
def ones : Nat → Nat → Nat
  | 0, _ => 0
  | n + 1, x => x % 2 + ones n (x / 2)
def by1 (x : Nat) (m : Nat) : Nat := (x / 2 &&& m) + (x &&& m)
def by2 (x : Nat) (m : Nat) : Nat := (x / 4 &&& m) + (x &&& m)
def by4 (x : Nat) (m : Nat) : Nat := (x / 16 + x) &&& m
set_option maxRecDepth 100000 in
theorem b1 : ∀ a : Fin 256, ∀ t : Fin 2, (a.val / 2 + 128 * t.val) &&& 85 = (a.val / 2 &&& 85) := by decide
set_option maxRecDepth 100000 in
theorem b2 : ∀ a : Fin 256, ∀ t : Fin 4, (a.val / 4 + 64 * t.val) &&& 51 = (a.val / 4 &&& 51) := by decide
set_option maxRecDepth 100000 in
theorem s1 : ∀ a : Fin 256, by1 a.val 85 < 256 ∧ by2 (by1 a.val 85) 51 < 256 ∧ by2 (by1 a.val 85) 51 / 16 ≤ 4 ∧ by2 (by1 a.val 85) 51 % 16 ≤ 4 ∧ by4 (by2 (by1 a.val 85) 51) 15 = ones 8 a.val ∧ ones 8 a.val ≤ 8 := by decide
end Go.Proofs.YtmchhjjdlcmhoaaDoor.Pop
namespace Go.Proofs.YtmchhjjdlcmhoaaDoor.Pop
theorem rep_s (c n : Nat) : rep c (n + 1) = c + 256 * rep c n := rfl
theorem by1_rec {a : Nat} (b n : Nat) (ha : a < 256) : by1 (a + 256 * b) (rep 85 (n + 1)) = by1 a 85 + 256 * by1 b (rep 85 n) := by
  have e : (a + 256 * b) / 2 = (a / 2 + 128 * (b % 2)) + 256 * (b / 2) := by omega
  have h := b1 ⟨a, ha⟩ ⟨b % 2, by omega⟩
  simp only at h
  rw [by1, e, rep_s, land256 _ _ _ _ (by omega) (by decide), land256 _ _ _ _ ha (by decide), h, by1, by1]
  omega
theorem by2_rec {a : Nat} (b n : Nat) (ha : a < 256) : by2 (a + 256 * b) (rep 51 (n + 1)) = by2 a 51 + 256 * by2 b (rep 51 n) := by
  have e : (a + 256 * b) / 4 = (a / 4 + 64 * (b % 4)) + 256 * (b / 4) := by omega
  have h := b2 ⟨a, ha⟩ ⟨b % 4, by omega⟩
  simp only at h
  rw [by2, e, rep_s, land256 _ _ _ _ (by omega) (by decide), land256 _ _ _ _ ha (by decide), h, by2, by2]
  omega
theorem land15 (x : Nat) : x &&& 15 = x % 16 := Nat.and_two_pow_sub_one_eq_mod x 4
theorem by4_rec {a : Nat} (b n : Nat) (h1 : a / 16 ≤ 4) (h2 : a % 16 ≤ 4) (h3 : b % 16 ≤ 4) : by4 (a + 256 * b) (rep 15 (n + 1)) = by4 a 15 + 256 * by4 b (rep 15 n) := by
  have e : (a + 256 * b) / 16 + (a + 256 * b) = (a / 16 + a + 16 * (b % 16)) + 256 * (b / 16 + b) := by omega
  rw [by4, e, rep_s, land256 _ _ _ _ (by omega) (by decide), by4, by4, land15, land15]
  omega
def cnt : Nat → Nat → Nat
  | 0, _ => 0
  | n + 1, x => ones 8 (x % 256) + 256 * cnt n (x / 256)
def all3 (x n : Nat) : Nat := by2 (by1 x (rep 85 n)) (rep 51 n)
theorem all3_rec (x n : Nat) : all3 x (n + 1) = by2 (by1 (x % 256) 85) 51 + 256 * all3 (x / 256) n := by
  have ha : x % 256 < 256 := Nat.mod_lt _ (by decide)
  have s := s1 ⟨x % 256, ha⟩
  have e : x = x % 256 + 256 * (x / 256) := by omega
  rw [all3, congrArg (fun y => by1 y (rep 85 (n + 1))) e, by1_rec _ _ ha, by2_rec _ _ s.1]
  rfl
theorem all3_0 (x : Nat) : all3 x 0 = 0 := by simp [all3, by2, rep]
theorem all3_low (x : Nat) : ∀ n, all3 x n % 16 ≤ 4
  | 0 => by rw [all3_0]; decide
  | n + 1 => by
    have s := s1 ⟨x % 256, Nat.mod_lt _ (by decide)⟩
    have s4 := s.2.2.2.1
    simp only at s4
    rw [all3_rec]; omega
theorem by4_all : ∀ n x, by4 (all3 x n) (rep 15 n) = cnt n x
  | 0, x => by simp [by4, rep, cnt]
  | n + 1, x => by
    have s := s1 ⟨x % 256, Nat.mod_lt _ (by decide)⟩
    obtain ⟨_, _, s3, s4, s5, _⟩ := s
    simp only at s3 s4 s5
    rw [all3_rec, by4_rec _ _ s3 s4 (all3_low _ _), s5, by4_all n, cnt]
theorem ones_add : ∀ m n x, ones (m + n) x = ones m x + ones n (x / 2 ^ m)
  | 0, n, x => by simp [ones]
  | m + 1, n, x => by
    rw [show m + 1 + n = (m + n) + 1 by omega, ones, ones, ones_add m n (x / 2), Nat.div_div_eq_div_mul, show 2 * 2 ^ m = 2 ^ (m + 1) by rw [Nat.pow_succ]; omega]
    omega
theorem ones_mod : ∀ n x, ones n (x % 2 ^ n) = ones n x
  | 0, _ => rfl
  | n + 1, x => by
    rw [ones, ones, Nat.pow_succ, ← ones_mod n (x / 2)]
    have h1 : x % (2 ^ n * 2) % 2 = x % 2 := Nat.mod_mul_left_mod x (2 ^ n) 2
    have h2 : x % (2 ^ n * 2) / 2 = x / 2 % 2 ^ n := by rw [Nat.mul_comm, Nat.mod_mul_right_div_self]
    rw [h1, h2]
theorem ones_le : ∀ n x, ones n x ≤ n
  | 0, _ => Nat.le_refl _
  | n + 1, x => by have := ones_le n (x / 2); simp only [ones]; omega
theorem ones_step (n x : Nat) : ones (8 + n) x = ones 8 (x % 256) + ones n (x / 256) := by
  rw [ones_add, ← ones_mod 8 x]
def fold (y : Nat) : Nat :=
  let a := y + y / 256
  let b := a + a / 65536
  (b + b / 4294967296) % 128
theorem fold_8 {a b c d e f g h : Nat} (h0 : a ≤ 8) (h1 : b ≤ 8) (h2 : c ≤ 8) (h3 : d ≤ 8) (h4 : e ≤ 8) (h5 : f ≤ 8) (h6 : g ≤ 8) (h7 : h ≤ 8) :
    fold (a + 256 * (b + 256 * (c + 256 * (d + 256 * (e + 256 * (f + 256 * (g + 256 * (h + 256 * 0)))))))) = a + b + c + d + e + f + g + h := by
  unfold fold
  simp only
  have e1 : (a + 256 * (b + 256 * (c + 256 * (d + 256 * (e + 256 * (f + 256 * (g + 256 * (h + 256 * 0)))))))) / 256 = b + 256 * (c + 256 * (d + 256 * (e + 256 * (f + 256 * (g + 256 * h))))) := by omega
  rw [e1]
  have e2 : (a + 256 * (b + 256 * (c + 256 * (d + 256 * (e + 256 * (f + 256 * (g + 256 * (h + 256 * 0))))))) + (b + 256 * (c + 256 * (d + 256 * (e + 256 * (f + 256 * (g + 256 * h))))))) = (a + b) + 256 * (b + c) + 65536 * ((c + d) + 256 * (d + e) + 65536 * ((e + f) + 256 * (f + g) + 65536 * ((g + h) + 256 * h))) := by omega
  rw [e2]
  obtain ⟨p, hp⟩ : ∃ p, (a + b) + 256 * (b + c) = p := ⟨_, rfl⟩
  obtain ⟨q, hq⟩ : ∃ p, (c + d) + 256 * (d + e) = p := ⟨_, rfl⟩
  obtain ⟨r, hr⟩ : ∃ p, (e + f) + 256 * (f + g) = p := ⟨_, rfl⟩
  obtain ⟨s, hs⟩ : ∃ p, (g + h) + 256 * h = p := ⟨_, rfl⟩
  rw [hp, hq, hr, hs]
  have e3 : (p + 65536 * (q + 65536 * (r + 65536 * s))) / 65536 = q + 65536 * (r + 65536 * s) := by omega
  rw [e3]
  have e4 : (p + 65536 * (q + 65536 * (r + 65536 * s)) + (q + 65536 * (r + 65536 * s))) / 4294967296 = (r + s) + 65536 * s := by omega
  rw [e4]
  omega
theorem pop64 (x : Nat) : fold (by4 (all3 x 8) (rep 15 8)) = ones 64 x := by
  rw [by4_all]
  simp only [cnt]
  rw [fold_8 (ones_le 8 _) (ones_le 8 _) (ones_le 8 _) (ones_le 8 _) (ones_le 8 _) (ones_le 8 _) (ones_le 8 _) (ones_le 8 _)]
  have e : ones 64 x = ones (8 + (8 + (8 + (8 + (8 + (8 + (8 + (8 + 0)))))))) x := congrArg (fun n => ones n x) (by decide)
  have z : ∀ y, ones 0 y = 0 := fun _ => rfl
  rw [e, ones_step, ones_step, ones_step, ones_step, ones_step, ones_step, ones_step, ones_step, z]
  omega
end Go.Proofs.YtmchhjjdlcmhoaaDoor.Pop

/- Package word: High, Low, Count: what they answer. -/
namespace Go.Proofs.YtmchhjjdlcmhoaaDoor
open Go.D
set_option linter.all false
set_option maxRecDepth 100000
set_option maxHeartbeats 4000000

theorem okLen : FnOk Tryd.prog 30 := ⟨Tryd.f30, Tryd.func30, by kernel_rfl, by kernel_rfl⟩
theorem okTz : FnOk Tryd.prog 31 := ⟨Tryd.f31, Tryd.func31, by kernel_rfl, by kernel_rfl⟩

def lenG : List V → List Blk → Res
  | [.s (.i .u64 x)], h => .ob (u64 x) (.ok (.s (.i .i64 (Lib.bitLen x.toNat))) [] h)
  | _, _ => .bad
theorem len_snd : Snd Tryd.prog 30 (FSpec.of lenG) := fun σ h w args K hsim hgl hval hkn hS => by
  unfold FSpec.of lenG at hS
  split at hS
  · rename_i x
    obtain ⟨hx, hS⟩ := hS
    refine (Go.Proofs.YtmchhjjdlcmhoaaDoor.len64 x w hx.1 (by have := hx.2; omega)).mono fun e w' ⟨he, hw⟩ => ?_
    subst hw
    exact ⟨.s (.i .i64 (Lib.bitLen x.toNat)), h, σ, he, rfl, rfl, Inv.refl hsim hgl, hS⟩
  · exact hS.elim

def tzG : List V → List Blk → Res
  | [.s (.i .u64 x)], h => .ob (u64 x) (.ok (.s (.i .i64 (Lib.ctz 64 x.toNat))) [] h)
  | _, _ => .bad
theorem tz_snd : Snd Tryd.prog 31 (FSpec.of tzG) := fun σ h w args K hsim hgl hval hkn hS => by
  unfold FSpec.of tzG at hS
  split at hS
  · rename_i x
    obtain ⟨hx, hS⟩ := hS
    obtain ⟨x, rfl, hx'⟩ := hx.nat
    have hT : TabAt 0 Lib.deBruijn64tab w := fun j hj => (hgl (0, j, .int .u8 ((Lib.deBruijn64tab.getD j 0 : Nat) : Int)) (List.mem_map.2 ⟨j, List.mem_range.2 hj, rfl⟩)).1
    refine (Go.Proofs.YtmchhjjdlcmhoaaDoor.tz64 x hx' w hT).mono fun e w' ⟨he, hw⟩ => ?_
    subst hw
    exact ⟨.s (.i .i64 (Lib.ctz 64 x)), h, σ, he, rfl, rfl, Inv.refl hsim hgl, hS⟩
  · exact hS.elim

def onesG : List V → List Blk → Res
  | [.s (.i .u64 x)], h => .ob (u64 x) (.ok (.s (.i .i64 (Pop.ones 64 x.toNat))) [] h)
  | _, _ => .bad
theorem c_and {a : Nat} {m : Int} (mm : Nat) (h : m = mm) (hm : mm < 18446744073709551616) (ha : a < 18446744073709551616) : bits .and .u64 (a : Int) m = ((a &&& mm : Nat) : Int) := by
  subst h; exact bits_and_u64_nat a mm ha hm
theorem c_add {a b : Nat} (h : a + b < 18446744073709551616) : IntKind.u64.wrap ((a : Int) + (b : Int)) = ((a + b : Nat) : Int) := by
  rw [IntKind.wrap_u64]; omega
theorem c_shr (a k : Nat) (h : k ≤ 64) : (a : Int) / 2 ^ min k IntKind.u64.bits = ((a / 2 ^ k : Nat) : Int) := by
  have : min k IntKind.u64.bits = k := by show min k 64 = k; omega
  rw [this]
  push_cast
  rfl
theorem land_le (a m : Nat) : a &&& m ≤ m := Nat.and_le_right

theorem ones_snd : Snd Tryd.prog 32 (FSpec.of onesG) := snd_run (noT_snd _) mixed Tryd.func32 dc32 100 fun args h K _ hS => by
  unfold onesG at hS
  split at hS
  · rename_i x
    obtain ⟨hx, hS⟩ := hS
    obtain ⟨x, rfl, hx'⟩ := hx.nat
    have l1 := land_le (x / 2) 6148914691236517205
    have l2 := land_le x 6148914691236517205
    obtain ⟨y1, hy1⟩ : ∃ y, y = (x / 2 &&& 6148914691236517205) + (x &&& 6148914691236517205) := ⟨_, rfl⟩
    have f1 := c_shr x 1 (by decide)
    have f2 : bits .and .u64 ((x / 2 ^ 1 : Nat) : Int) 6148914691236517205 = ((x / 2 &&& 6148914691236517205 : Nat) : Int) := c_and 6148914691236517205 rfl (by decide) (by omega)
    have f3 : bits .and .u64 (x : Int) 6148914691236517205 = ((x &&& 6148914691236517205 : Nat) : Int) := c_and 6148914691236517205 rfl (by decide) (by omega)
    have f4 : IntKind.u64.wrap (((x / 2 &&& 6148914691236517205 : Nat) : Int) + ((x &&& 6148914691236517205 : Nat) : Int)) = (y1 : Int) := by rw [c_add (by omega), ← hy1]
    have l3 := land_le (y1 / 4) 3689348814741910323
    have l4 := land_le y1 3689348814741910323
    obtain ⟨y2, hy2⟩ : ∃ y, y = (y1 / 4 &&& 3689348814741910323) + (y1 &&& 3689348814741910323) := ⟨_, rfl⟩
    have f5 := c_shr y1 2 (by decide)
    have f6 : bits .and .u64 ((y1 / 2 ^ 2 : Nat) : Int) 3689348814741910323 = ((y1 / 4 &&& 3689348814741910323 : Nat) : Int) := c_and 3689348814741910323 rfl (by decide) (by omega)
    have f7 : bits .and .u64 (y1 : Int) 3689348814741910323 = ((y1 &&& 3689348814741910323 : Nat) : Int) := c_and 3689348814741910323 rfl (by decide) (by omega)
    have f8 : IntKind.u64.wrap (((y1 / 4 &&& 3689348814741910323 : Nat) : Int) + ((y1 &&& 3689348814741910323 : Nat) : Int)) = (y2 : Int) := by rw [c_add (by omega), ← hy2]
    have l5 := land_le (y2 / 16 + y2) 1085102592571150095
    obtain ⟨y3, hy3⟩ : ∃ y, y = (y2 / 16 + y2) &&& 1085102592571150095 := ⟨_, rfl⟩
    rw [← hy3] at l5
    have f9 := c_shr y2 4 (by decide)
    have f10 : IntKind.u64.wrap (((y2 / 2 ^ 4 : Nat) : Int) + (y2 : Int)) = ((y2 / 16 + y2 : Nat) : Int) := c_add (by omega)
    have f11 : bits .and .u64 ((y2 / 16 + y2 : Nat) : Int) 1085102592571150095 = (y3 : Int) := (c_and (a := y2 / 16 + y2) (m := 1085102592571150095) 1085102592571150095 rfl (by decide) (by omega)).trans (by rw [← hy3])
    obtain ⟨y4, hy4⟩ : ∃ y, y = y3 + y3 / 256 := ⟨_, rfl⟩
    have f12 := c_shr y3 8 (by decide)
    have f13 : IntKind.u64.wrap ((y3 : Int) + ((y3 / 2 ^ 8 : Nat) : Int)) = (y4 : Int) := by rw [c_add (by omega), hy4]
    obtain ⟨y5, hy5⟩ : ∃ y, y = y4 + y4 / 65536 := ⟨_, rfl⟩
    have f14 := c_shr y4 16 (by decide)
    have f15 : IntKind.u64.wrap ((y4 : Int) + ((y4 / 2 ^ 16 : Nat) : Int)) = (y5 : Int) := by rw [c_add (by omega), hy5]
    obtain ⟨y6, hy6⟩ : ∃ y, y = y5 + y5 / 4294967296 := ⟨_, rfl⟩
    have f16 := c_shr y5 32 (by decide)
    have f17 : IntKind.u64.wrap ((y5 : Int) + ((y5 / 2 ^ 32 : Nat) : Int)) = (y6 : Int) := by rw [c_add (by omega), hy6]
    have f18 : IntKind.i64.wrap (y6 : Int) = (y6 : Int) := by rw [IntKind.wrap_i64]; omega
    have f19 : bits .and .i64 (y6 : Int) 127 = ((y6 % 128 : Nat) : Int) := by
      have := bits_mask .i64 63 (by decide) (fun n a b => by rw [IntKind.wrap_i64]; omega) 7 (by decide) (y6 : Int) (by omega) (by omega)
      have e : (2 : Int) ^ 7 - 1 = 127 := by decide
      rw [e] at this
      rw [this]; omega
    have hp := Pop.pop64 x
    have hv : Pop.fold (Pop.by4 (Pop.all3 x 8) (Pop.rep 15 8)) = y6 % 128 := by
      have r1 : Pop.rep 85 8 = 6148914691236517205 := by decide
      have r2 : Pop.rep 51 8 = 3689348814741910323 := by decide
      have r3 : Pop.rep 15 8 = 1085102592571150095 := by decide
      simp only [Pop.fold, Pop.by4, Pop.all3, Pop.by2, Pop.by1, r1, r2, r3]
      rw [← hy1, ← hy2, ← hy3, ← hy4, ← hy5, ← hy6]
    rw [Int.toNat_natCast, ← hp, hv] at hS
    simp (config := { maxSteps := 10000000 }) only [run_drx, run_xd, run_xq, run_xg, run_xb, EV1, EV2, EV3, EV4, EV5, EV6, addT, istep, lenR_sl, lenR_ns, lenR_es, pickR, putD, bin1R, un1R, slcR, bnd, capsOf, fillP, S_plain, V_plain, V.cells, S_known, V_known, C.v, blk, setL, setH, eqS, eq1, cmpS, cmp1, isNil, popTo, killT, setT, leT, V.below, C.below, S_below, R.below, V.val, C.val, S_val, R.val, R.takes, vals, shows, List.any_cons, List.any_nil, unnamed, V.kill, V.names, C.names, S_names, R.names, List.set, List.replicate, ↓q_cond_t, ↓q_cond_f, if_true, if_false, reduceCtorEq, rvals, rvC, result, C_known, V.noL, C.noL, S_noL, R.noL, Option.map, true_and, and_true, ge_iff_le, gt_iff_lt, implies_true, q_ite_t, q_ite_f, beq_iff_eq, bne_iff_ne, q_ne, Nat.reduceAdd, Nat.reducePow, Int.reducePow, Nat.reduceMul, Nat.reduceSub, Nat.reduceLeDiff, Nat.reduceLT, Nat.reduceEqDiff, Int.reduceNeg, Int.reduceLT, Int.reduceLE, Int.reduceEq, Int.reduceNe, Int.reduceAdd, Int.reduceSub, Int.reduceMul, Int.reduceToNat, Int.reduceBEq, Int.reduceBNe, df32, f1, f2, f3, f4, f5, f6, f7, f8, f9, f10, f11, f12, f13, f14, f15, f16, f17, f18, f19]
    exact hS
  · exact hS.elim

end Go.Proofs.YtmchhjjdlcmhoaaDoor

/- Package word: what its functions answer. -/
namespace Go.Proofs.YtmchhjjdlcmhoaaDoor
open Go.D
set_option linter.all false
set_option maxRecDepth 100000
set_option maxHeartbeats 4000000

/-- May there be a field? -/
def fieldB (at_ n : Int) : Bool := decide (0 ≤ at_ ∧ at_ ≤ 63 ∧ 1 ≤ n ∧ n ≤ 64 - at_)
def maskV (at_ n : Int) : Int := (((2 ^ n.toNat - 1) * 2 ^ at_.toNat : Nat) : Int)
def getV (w at_ n : Int) : Int := ((w.toNat / 2 ^ at_.toNat % 2 ^ n.toNat : Nat) : Int)
def setB (at_ n v : Int) : Bool := fieldB at_ n && decide (v.toNat < 2 ^ n.toNat)
def setV (w at_ n v : Int) : Int := ((2 ^ (at_.toNat + n.toNat) * (w.toNat / 2 ^ (at_.toNat + n.toNat)) + (2 ^ at_.toNat * v.toNat + w.toNat % 2 ^ at_.toNat) : Nat) : Int)

theorem fieldB_nat {at_ n : Int} (h : fieldB at_ n = true) : ∃ k m : Nat, at_ = k ∧ n = m ∧ k ≤ 63 ∧ 1 ≤ m ∧ k + m ≤ 64 := by
  simp only [fieldB, decide_eq_true_eq] at h
  exact ⟨at_.toNat, n.toNat, by omega, by omega, by omega, by omega, by omega⟩

def maskG : List V → List Blk → Res
  | [.s (.i .i64 at_), .s (.i .i64 n)], h => .br (fieldB at_ n) (.ok (.tup [.s (.i .u64 (maskV at_ n)), .s (.b true)]) [] h) (.ok (.tup [.s (.i .u64 0), .s (.b false)]) [] h)
  | _, _ => .bad

theorem mask_snd : Snd Tryd.prog 26 (FSpec.of maskG) := snd_run (noT_snd _) mixed Tryd.func26 dc26 100 fun args h K _ hS => by
  unfold maskG at hS
  split at hS
  · rename_i at_ n
    simp only [spec_br, spec_ok] at hS
    cases hf : fieldB at_ n with
    | true =>
      have hS := hS.1 hf
      obtain ⟨k, m, rfl, rfl, h1, h2, h3⟩ := fieldB_nat hf
      have c1 : ¬ ((k : Int) < 0) := by omega
      have c2 : ¬ ((63 : Int) < k) := by omega
      have c3 : ¬ ((m : Int) < 1) := by omega
      have c4 : ¬ ((64 : Int) - k < m) := by omega
      have w1 : IntKind.i64.wrap (64 - (k : Int)) = 64 - k := wrap64 (by omega) (by omega)
      have w2 : IntKind.i64.wrap (64 - (m : Int)) = ((64 - m : Nat) : Int) := by rw [wrap64] <;> omega
      have m1 : min (64 - m) IntKind.u64.bits = 64 - m := by show min (64 - m) 64 = _; omega
      have m2 : min k IntKind.u64.bits = k := by show min k 64 = _; omega
      have hm := u64_mask (k := k) (n := m) h3
      have c5 : (0 : Int) ≤ ((64 - m : Nat) : Int) := by omega
      have c6 : (0 : Int) ≤ (k : Int) := by omega
      simp (config := { maxSteps := 10000000 }) only [run_drx, run_xd, run_xq, run_xg, run_xb, EV1, EV2, EV3, EV4, EV5, EV6, addT, istep, lenR_sl, lenR_ns, lenR_es, pickR, putD, bin1R, un1R, slcR, bnd, capsOf, fillP, S_plain, V_plain, V.cells, S_known, V_known, C.v, blk, setL, setH, eqS, eq1, cmpS, cmp1, isNil, popTo, killT, setT, leT, V.below, C.below, S_below, R.below, V.val, C.val, S_val, R.val, R.takes, vals, shows, List.any_cons, List.any_nil, unnamed, V.kill, V.names, C.names, S_names, R.names, List.set, List.replicate, ↓q_cond_t, ↓q_cond_f, if_true, if_false, reduceCtorEq, rvals, rvC, result, C_known, V.noL, C.noL, S_noL, R.noL, Option.map, true_and, and_true, ge_iff_le, gt_iff_lt, implies_true, q_ite_t, q_ite_f, beq_iff_eq, bne_iff_ne, q_ne, Nat.reduceAdd, Nat.reducePow, Int.reducePow, Nat.reduceMul, Nat.reduceSub, Nat.reduceLeDiff, Nat.reduceLT, Nat.reduceEqDiff, Int.reduceNeg, Int.reduceLT, Int.reduceLE, Int.reduceEq, Int.reduceNe, Int.reduceAdd, Int.reduceSub, Int.reduceMul, Int.reduceToNat, Int.reduceBEq, Int.reduceBNe, df26, c1, c2, c3, c4, c5, c6, w1, w2, m1, m2, hm]
      exact hS
    | false =>
      have hS := hS.2 hf
      have hn : ¬ (0 ≤ at_ ∧ at_ ≤ 63 ∧ 1 ≤ n ∧ n ≤ 64 - at_) := by simpa [fieldB] using hf
      by_cases c1 : at_ < 0
      · simp (config := { maxSteps := 10000000 }) only [run_drx, run_xd, run_xq, run_xg, run_xb, EV1, EV2, EV3, EV4, EV5, EV6, addT, istep, lenR_sl, lenR_ns, lenR_es, pickR, putD, bin1R, un1R, slcR, bnd, capsOf, fillP, S_plain, V_plain, V.cells, S_known, V_known, C.v, blk, setL, setH, eqS, eq1, cmpS, cmp1, isNil, popTo, killT, setT, leT, V.below, C.below, S_below, R.below, V.val, C.val, S_val, R.val, R.takes, vals, shows, List.any_cons, List.any_nil, unnamed, V.kill, V.names, C.names, S_names, R.names, List.set, List.replicate, ↓q_cond_t, ↓q_cond_f, if_true, if_false, reduceCtorEq, rvals, rvC, result, C_known, V.noL, C.noL, S_noL, R.noL, Option.map, true_and, and_true, ge_iff_le, gt_iff_lt, implies_true, q_ite_t, q_ite_f, beq_iff_eq, bne_iff_ne, q_ne, Nat.reduceAdd, Nat.reducePow, Int.reducePow, Nat.reduceMul, Nat.reduceSub, Nat.reduceLeDiff, Nat.reduceLT, Nat.reduceEqDiff, Int.reduceNeg, Int.reduceLT, Int.reduceLE, Int.reduceEq, Int.reduceNe, Int.reduceAdd, Int.reduceSub, Int.reduceMul, Int.reduceToNat, Int.reduceBEq, Int.reduceBNe, df26, c1]
        exact hS
      by_cases c2 : 63 < at_
      · simp (config := { maxSteps := 10000000 }) only [run_drx, run_xd, run_xq, run_xg, run_xb, EV1, EV2, EV3, EV4, EV5, EV6, addT, istep, lenR_sl, lenR_ns, lenR_es, pickR, putD, bin1R, un1R, slcR, bnd, capsOf, fillP, S_plain, V_plain, V.cells, S_known, V_known, C.v, blk, setL, setH, eqS, eq1, cmpS, cmp1, isNil, popTo, killT, setT, leT, V.below, C.below, S_below, R.below, V.val, C.val, S_val, R.val, R.takes, vals, shows, List.any_cons, List.any_nil, unnamed, V.kill, V.names, C.names, S_names, R.names, List.set, List.replicate, ↓q_cond_t, ↓q_cond_f, if_true, if_false, reduceCtorEq, rvals, rvC, result, C_known, V.noL, C.noL, S_noL, R.noL, Option.map, true_and, and_true, ge_iff_le, gt_iff_lt, implies_true, q_ite_t, q_ite_f, beq_iff_eq, bne_iff_ne, q_ne, Nat.reduceAdd, Nat.reducePow, Int.reducePow, Nat.reduceMul, Nat.reduceSub, Nat.reduceLeDiff, Nat.reduceLT, Nat.reduceEqDiff, Int.reduceNeg, Int.reduceLT, Int.reduceLE, Int.reduceEq, Int.reduceNe, Int.reduceAdd, Int.reduceSub, Int.reduceMul, Int.reduceToNat, Int.reduceBEq, Int.reduceBNe, df26, c1, c2]
        exact hS
      by_cases c3 : n < 1
      · simp (config := { maxSteps := 10000000 }) only [run_drx, run_xd, run_xq, run_xg, run_xb, EV1, EV2, EV3, EV4, EV5, EV6, addT, istep, lenR_sl, lenR_ns, lenR_es, pickR, putD, bin1R, un1R, slcR, bnd, capsOf, fillP, S_plain, V_plain, V.cells, S_known, V_known, C.v, blk, setL, setH, eqS, eq1, cmpS, cmp1, isNil, popTo, killT, setT, leT, V.below, C.below, S_below, R.below, V.val, C.val, S_val, R.val, R.takes, vals, shows, List.any_cons, List.any_nil, unnamed, V.kill, V.names, C.names, S_names, R.names, List.set, List.replicate, ↓q_cond_t, ↓q_cond_f, if_true, if_false, reduceCtorEq, rvals, rvC, result, C_known, V.noL, C.noL, S_noL, R.noL, Option.map, true_and, and_true, ge_iff_le, gt_iff_lt, implies_true, q_ite_t, q_ite_f, beq_iff_eq, bne_iff_ne, q_ne, Nat.reduceAdd, Nat.reducePow, Int.reducePow, Nat.reduceMul, Nat.reduceSub, Nat.reduceLeDiff, Nat.reduceLT, Nat.reduceEqDiff, Int.reduceNeg, Int.reduceLT, Int.reduceLE, Int.reduceEq, Int.reduceNe, Int.reduceAdd, Int.reduceSub, Int.reduceMul, Int.reduceToNat, Int.reduceBEq, Int.reduceBNe, df26, c1, c2, c3]
        exact hS
      have w1 : IntKind.i64.wrap (64 - at_) = 64 - at_ := wrap64 (by omega) (by omega)
      have c4 : 64 - at_ < n := by omega
      simp (config := { maxSteps := 10000000 }) only [run_drx, run_xd, run_xq, run_xg, run_xb, EV1, EV2, EV3, EV4, EV5, EV6, addT, istep, lenR_sl, lenR_ns, lenR_es, pickR, putD, bin1R, un1R, slcR, bnd, capsOf, fillP, S_plain, V_plain, V.cells, S_known, V_known, C.v, blk, setL, setH, eqS, eq1, cmpS, cmp1, isNil, popTo, killT, setT, leT, V.below, C.below, S_below, R.below, V.val, C.val, S_val, R.val, R.takes, vals, shows, List.any_cons, List.any_nil, unnamed, V.kill, V.names, C.names, S_names, R.names, List.set, List.replicate, ↓q_cond_t, ↓q_cond_f, if_true, if_false, reduceCtorEq, rvals, rvC, result, C_known, V.noL, C.noL, S_noL, R.noL, Option.map, true_and, and_true, ge_iff_le, gt_iff_lt, implies_true, q_ite_t, q_ite_f, beq_iff_eq, bne_iff_ne, q_ne, Nat.reduceAdd, Nat.reducePow, Int.reducePow, Nat.reduceMul, Nat.reduceSub, Nat.reduceLeDiff, Nat.reduceLT, Nat.reduceEqDiff, Int.reduceNeg, Int.reduceLT, Int.reduceLE, Int.reduceEq, Int.reduceNe, Int.reduceAdd, Int.reduceSub, Int.reduceMul, Int.reduceToNat, Int.reduceBEq, Int.reduceBNe, df26, c1, c2, c3, w1, c4]
      exact hS
  · exact hS.elim

def W1 : Tab := addT 26 maskG noT
theorem W1_snd : W1.Snd Tryd.prog := addT_snd ok26 mask_snd (noT_snd _)

def getG : List V → List Blk → Res
  | [.s (.i .u64 w), .s (.i .i64 at_), .s (.i .i64 n)], h => .ob (u64 w) (.br (fieldB at_ n) (.ok (.tup [.s (.i .u64 (getV w at_ n)), .s (.i .i64 0)]) [] h) (.ok (.tup [.s (.i .u64 0), .s (.i .i64 10)]) [] h))
  | _, _ => .bad

theorem get_snd : Snd Tryd.prog 9 (FSpec.of getG) := snd_run W1_snd mixed Tryd.func9 dc9 100 fun args h K _ hS => by
  unfold getG at hS
  split at hS
  · rename_i w at_ n
    obtain ⟨hw, hS⟩ := hS
    simp only [spec_br, spec_ok] at hS
    obtain ⟨w, rfl, hw'⟩ := hw.nat
    cases hf : fieldB at_ n with
    | true =>
      have hS := hS.1 hf
      obtain ⟨k, m, rfl, rfl, h1, h2, h3⟩ := fieldB_nat hf
      have m2 : min k IntKind.u64.bits = k := by show min k 64 = _; omega
      have hg := u64_get hw' h3
      have c6 : (0 : Int) ≤ (k : Int) := by omega
      simp (config := { maxSteps := 10000000 }) only [run_drx, run_xd, run_xq, run_xg, run_xb, EV1, EV2, EV3, EV4, EV5, EV6, addT, istep, lenR_sl, lenR_ns, lenR_es, pickR, putD, bin1R, un1R, slcR, bnd, capsOf, fillP, S_plain, V_plain, V.cells, S_known, V_known, C.v, blk, setL, setH, eqS, eq1, cmpS, cmp1, isNil, popTo, killT, setT, leT, V.below, C.below, S_below, R.below, V.val, C.val, S_val, R.val, R.takes, vals, shows, List.any_cons, List.any_nil, unnamed, V.kill, V.names, C.names, S_names, R.names, List.set, List.replicate, ↓q_cond_t, ↓q_cond_f, if_true, if_false, reduceCtorEq, rvals, rvC, result, C_known, V.noL, C.noL, S_noL, R.noL, Option.map, true_and, and_true, ge_iff_le, gt_iff_lt, implies_true, q_ite_t, q_ite_f, beq_iff_eq, bne_iff_ne, q_ne, Nat.reduceAdd, Nat.reducePow, Int.reducePow, Nat.reduceMul, Nat.reduceSub, Nat.reduceLeDiff, Nat.reduceLT, Nat.reduceEqDiff, Int.reduceNeg, Int.reduceLT, Int.reduceLE, Int.reduceEq, Int.reduceNe, Int.reduceAdd, Int.reduceSub, Int.reduceMul, Int.reduceToNat, Int.reduceBEq, Int.reduceBNe, df9, W1, maskG, hf, maskV, hg, m2, c6]
      exact hS
    | false =>
      have hS := hS.2 hf
      simp (config := { maxSteps := 10000000 }) only [run_drx, run_xd, run_xq, run_xg, run_xb, EV1, EV2, EV3, EV4, EV5, EV6, addT, istep, lenR_sl, lenR_ns, lenR_es, pickR, putD, bin1R, un1R, slcR, bnd, capsOf, fillP, S_plain, V_plain, V.cells, S_known, V_known, C.v, blk, setL, setH, eqS, eq1, cmpS, cmp1, isNil, popTo, killT, setT, leT, V.below, C.below, S_below, R.below, V.val, C.val, S_val, R.val, R.takes, vals, shows, List.any_cons, List.any_nil, unnamed, V.kill, V.names, C.names, S_names, R.names, List.set, List.replicate, ↓q_cond_t, ↓q_cond_f, if_true, if_false, reduceCtorEq, rvals, rvC, result, C_known, V.noL, C.noL, S_noL, R.noL, Option.map, true_and, and_true, ge_iff_le, gt_iff_lt, implies_true, q_ite_t, q_ite_f, beq_iff_eq, bne_iff_ne, q_ne, Nat.reduceAdd, Nat.reducePow, Int.reducePow, Nat.reduceMul, Nat.reduceSub, Nat.reduceLeDiff, Nat.reduceLT, Nat.reduceEqDiff, Int.reduceNeg, Int.reduceLT, Int.reduceLE, Int.reduceEq, Int.reduceNe, Int.reduceAdd, Int.reduceSub, Int.reduceMul, Int.reduceToNat, Int.reduceBEq, Int.reduceBNe, df9, W1, maskG, hf]
      exact hS
  · exact hS.elim

def setG : List V → List Blk → Res
  | [.s (.i .u64 w), .s (.i .i64 at_), .s (.i .i64 n), .s (.i .u64 v)], h => .ob (u64 w ∧ u64 v) (.br (setB at_ n v) (.ok (.tup [.s (.i .u64 (setV w at_ n v)), .s (.i .i64 0)]) [] h) (.ok (.tup [.s (.i .u64 0), .s (.i .i64 10)]) [] h))
  | _, _ => .bad

theorem set_snd : Snd Tryd.prog 11 (FSpec.of setG) := snd_run W1_snd mixed Tryd.func11 dc11 100 fun args h K _ hS => by
  unfold setG at hS
  split at hS
  · rename_i w at_ n v
    obtain ⟨⟨hw, hv⟩, hS⟩ := hS
    simp only [spec_br, spec_ok] at hS
    obtain ⟨w, rfl, hw'⟩ := hw.nat
    obtain ⟨v, rfl, hv'⟩ := hv.nat
    cases hf : fieldB at_ n with
    | true =>
      obtain ⟨k, m, rfl, rfl, h1, h2, h3⟩ := fieldB_nat hf
      have m2 : min k IntKind.u64.bits = k := by show min k 64 = _; omega
      have c6 : (0 : Int) ≤ (k : Int) := by omega
      have hfit := u64_fits hv' h3
      by_cases hlt : v < 2 ^ m
      · have hb : setB (k : Int) (m : Int) (v : Int) = true := by simp [setB, hf, hlt]
        have hS := hS.1 hb
        obtain ⟨f1, f2⟩ := hfit.2 hlt
        have hs := u64_set hw' hlt h3
        simp (config := { maxSteps := 10000000 }) only [run_drx, run_xd, run_xq, run_xg, run_xb, EV1, EV2, EV3, EV4, EV5, EV6, addT, istep, lenR_sl, lenR_ns, lenR_es, pickR, putD, bin1R, un1R, slcR, bnd, capsOf, fillP, S_plain, V_plain, V.cells, S_known, V_known, C.v, blk, setL, setH, eqS, eq1, cmpS, cmp1, isNil, popTo, killT, setT, leT, V.below, C.below, S_below, R.below, V.val, C.val, S_val, R.val, R.takes, vals, shows, List.any_cons, List.any_nil, unnamed, V.kill, V.names, C.names, S_names, R.names, List.set, List.replicate, ↓q_cond_t, ↓q_cond_f, if_true, if_false, reduceCtorEq, rvals, rvC, result, C_known, V.noL, C.noL, S_noL, R.noL, Option.map, true_and, and_true, ge_iff_le, gt_iff_lt, implies_true, q_ite_t, q_ite_f, beq_iff_eq, bne_iff_ne, q_ne, Nat.reduceAdd, Nat.reducePow, Int.reducePow, Nat.reduceMul, Nat.reduceSub, Nat.reduceLeDiff, Nat.reduceLT, Nat.reduceEqDiff, Int.reduceNeg, Int.reduceLT, Int.reduceLE, Int.reduceEq, Int.reduceNe, Int.reduceAdd, Int.reduceSub, Int.reduceMul, Int.reduceToNat, Int.reduceBEq, Int.reduceBNe, df11, W1, maskG, hf, maskV, m2, c6, f1, f2, hs]
        exact hS
      · have hb : setB (k : Int) (m : Int) (v : Int) = false := by simp [setB, hlt]
        have hS := hS.2 hb
        by_cases f1 : IntKind.u64.wrap ((v : Int) * 2 ^ k) / 2 ^ k = (v : Int)
        · have f2 : ¬ bits .andNot .u64 (IntKind.u64.wrap ((v : Int) * 2 ^ k)) (((2 ^ m - 1) * 2 ^ k : Nat) : Int) = 0 := fun e => hlt (hfit.1 ⟨f1, e⟩)
          simp (config := { maxSteps := 10000000 }) only [run_drx, run_xd, run_xq, run_xg, run_xb, EV1, EV2, EV3, EV4, EV5, EV6, addT, istep, lenR_sl, lenR_ns, lenR_es, pickR, putD, bin1R, un1R, slcR, bnd, capsOf, fillP, S_plain, V_plain, V.cells, S_known, V_known, C.v, blk, setL, setH, eqS, eq1, cmpS, cmp1, isNil, popTo, killT, setT, leT, V.below, C.below, S_below, R.below, V.val, C.val, S_val, R.val, R.takes, vals, shows, List.any_cons, List.any_nil, unnamed, V.kill, V.names, C.names, S_names, R.names, List.set, List.replicate, ↓q_cond_t, ↓q_cond_f, if_true, if_false, reduceCtorEq, rvals, rvC, result, C_known, V.noL, C.noL, S_noL, R.noL, Option.map, true_and, and_true, ge_iff_le, gt_iff_lt, implies_true, q_ite_t, q_ite_f, beq_iff_eq, bne_iff_ne, q_ne, Nat.reduceAdd, Nat.reducePow, Int.reducePow, Nat.reduceMul, Nat.reduceSub, Nat.reduceLeDiff, Nat.reduceLT, Nat.reduceEqDiff, Int.reduceNeg, Int.reduceLT, Int.reduceLE, Int.reduceEq, Int.reduceNe, Int.reduceAdd, Int.reduceSub, Int.reduceMul, Int.reduceToNat, Int.reduceBEq, Int.reduceBNe, df11, W1, maskG, hf, maskV, m2, c6, f1, f2]
          exact hS
        · simp (config := { maxSteps := 10000000 }) only [run_drx, run_xd, run_xq, run_xg, run_xb, EV1, EV2, EV3, EV4, EV5, EV6, addT, istep, lenR_sl, lenR_ns, lenR_es, pickR, putD, bin1R, un1R, slcR, bnd, capsOf, fillP, S_plain, V_plain, V.cells, S_known, V_known, C.v, blk, setL, setH, eqS, eq1, cmpS, cmp1, isNil, popTo, killT, setT, leT, V.below, C.below, S_below, R.below, V.val, C.val, S_val, R.val, R.takes, vals, shows, List.any_cons, List.any_nil, unnamed, V.kill, V.names, C.names, S_names, R.names, List.set, List.replicate, ↓q_cond_t, ↓q_cond_f, if_true, if_false, reduceCtorEq, rvals, rvC, result, C_known, V.noL, C.noL, S_noL, R.noL, Option.map, true_and, and_true, ge_iff_le, gt_iff_lt, implies_true, q_ite_t, q_ite_f, beq_iff_eq, bne_iff_ne, q_ne, Nat.reduceAdd, Nat.reducePow, Int.reducePow, Nat.reduceMul, Nat.reduceSub, Nat.reduceLeDiff, Nat.reduceLT, Nat.reduceEqDiff, Int.reduceNeg, Int.reduceLT, Int.reduceLE, Int.reduceEq, Int.reduceNe, Int.reduceAdd, Int.reduceSub, Int.reduceMul, Int.reduceToNat, Int.reduceBEq, Int.reduceBNe, df11, W1, maskG, hf, maskV, m2, c6, f1]
          exact hS
    | false =>
      have hb : setB at_ n (v : Int) = false := by simp [setB, hf]
      have hS := hS.2 hb
      simp (config := { maxSteps := 10000000 }) only [run_drx, run_xd, run_xq, run_xg, run_xb, EV1, EV2, EV3, EV4, EV5, EV6, addT, istep, lenR_sl, lenR_ns, lenR_es, pickR, putD, bin1R, un1R, slcR, bnd, capsOf, fillP, S_plain, V_plain, V.cells, S_known, V_known, C.v, blk, setL, setH, eqS, eq1, cmpS, cmp1, isNil, popTo, killT, setT, leT, V.below, C.below, S_below, R.below, V.val, C.val, S_val, R.val, R.takes, vals, shows, List.any_cons, List.any_nil, unnamed, V.kill, V.names, C.names, S_names, R.names, List.set, List.replicate, ↓q_cond_t, ↓q_cond_f, if_true, if_false, reduceCtorEq, rvals, rvC, result, C_known, V.noL, C.noL, S_noL, R.noL, Option.map, true_and, and_true, ge_iff_le, gt_iff_lt, implies_true, q_ite_t, q_ite_f, beq_iff_eq, bne_iff_ne, q_ne, Nat.reduceAdd, Nat.reducePow, Int.reducePow, Nat.reduceMul, Nat.reduceSub, Nat.reduceLeDiff, Nat.reduceLT, Nat.reduceEqDiff, Int.reduceNeg, Int.reduceLT, Int.reduceLE, Int.reduceEq, Int.reduceNe, Int.reduceAdd, Int.reduceSub, Int.reduceMul, Int.reduceToNat, Int.reduceBEq, Int.reduceBNe, df11, W1, maskG, hf]
      exact hS
  · exact hS.elim

end Go.Proofs.YtmchhjjdlcmhoaaDoor

