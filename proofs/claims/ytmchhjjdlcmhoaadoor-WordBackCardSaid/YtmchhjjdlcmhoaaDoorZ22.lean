/- Pack and Unpack undo each other; each bit counts once: plain facts. -/
import Derived.Test.YtmchhjjdlcmhoaaDoorZ21
/- Pack and Unpack undo each other; each bit counts once: plain facts. -/
namespace Go.Proofs.YtmchhjjdlcmhoaaDoor
open Go.D
set_option linter.all false
set_option maxRecDepth 100000

theorem packV_mul : ∀ (F : List Fd) (a : Nat), packB F (a : Int) = true → ∃ q : Nat, packV F (a : Int) = ((2 ^ a * q : Nat) : Int)
  | [], a, _ => ⟨0, by simp [packV]⟩
  | f :: F, a, h => by
    simp only [packB, setB, Bool.and_eq_true, decide_eq_true_eq] at h
    obtain ⟨⟨hf, hlt⟩, hr⟩ := h
    obtain ⟨k, m, e1, e2, h1, h2, h3⟩ := fieldB_nat hf
    obtain rfl : k = a := by omega
    have e3 : (k : Int) + f.b = ((k + m : Nat) : Int) := by omega
    rw [e3] at hr
    obtain ⟨q, hq⟩ := packV_mul F (k + m) hr
    refine ⟨f.v.toNat + 2 ^ m * q, ?_⟩
    simp only [packV, Int.toNat_natCast]
    rw [e3, hq, Nat.pow_add, Nat.mul_add, Nat.mul_assoc]
    push_cast
    omega

/-- What is packed is told by Unpack. -/
theorem unpack_pack : ∀ (F : List Fd) (a low N : Nat), packB F (a : Int) = true → low < 2 ^ a → (N : Int) = low + packV F (a : Int) → (∀ f, f ∈ F → 0 ≤ f.v) →
    unpackB (N : Int) (F.map Fd.b) (a : Int) = true ∧ unpackV (N : Int) (F.map Fd.b) (a : Int) = F.map Fd.v
  | [], a, low, N, _, hl, hN, _ => by
    simp only [packV] at hN
    have : N = low := by omega
    subst this
    simp [unpackB, unpackV, Nat.div_eq_of_lt hl]
  | f :: F, a, low, N, h, hl, hN, hv => by
    simp only [packB, setB, Bool.and_eq_true, decide_eq_true_eq] at h
    obtain ⟨⟨hf, hlt⟩, hr⟩ := h
    obtain ⟨k, m, e1, e2, h1, h2, h3⟩ := fieldB_nat hf
    obtain rfl : k = a := by omega
    have e3 : (k : Int) + f.b = ((k + m : Nat) : Int) := by omega
    rw [e3] at hr
    obtain ⟨v, hfv⟩ : ∃ v : Nat, f.v = v := ⟨f.v.toNat, by have := hv f List.mem_cons_self; omega⟩
    have hm : f.b.toNat = m := by omega
    rw [hm, hfv, Int.toNat_natCast] at hlt
    simp only [packV, Int.toNat_natCast, e3, hfv] at hN
    obtain ⟨q, hq⟩ := packV_mul F (k + m) hr
    have hN2 : (N : Int) = ((low + 2 ^ k * v : Nat) : Int) + packV F ((k + m : Nat) : Int) := by rw [hN]; push_cast; omega
    have ih := unpack_pack F (k + m) (low + 2 ^ k * v) N hr (low_step hl hlt) hN2 (fun g hg => hv g (List.mem_cons_of_mem _ hg))
    have hget : getV (N : Int) (k : Int) f.b = f.v := by
      rw [hq] at hN2
      have hN3 : N = 2 ^ k * (v + 2 ^ m * q) + low := by
        have : ((N : Nat) : Int) = ((low + 2 ^ k * v + 2 ^ (k + m) * q : Nat) : Int) := by rw [hN2]; push_cast; rfl
        have := Int.ofNat.inj this
        rw [this, Nat.pow_add, Nat.mul_add, Nat.mul_assoc]
        omega
      simp only [getV, Int.toNat_natCast, hm]
      rw [hN3, Nat.mul_add_div (Nat.two_pow_pos k), Nat.div_eq_of_lt hl, Nat.add_zero, Nat.add_mul_mod_self_left, Nat.mod_eq_of_lt hlt, hfv]
    simp only [List.map_cons, unpackB, unpackV, hf, hget, e3, ih.1, ih.2, Bool.and_self, and_self]

def sumOnes : List Fd → Nat
  | [] => 0
  | f :: F => Pop.ones 64 f.v.toNat + sumOnes F
theorem ones_zero (n : Nat) : Pop.ones n 0 = 0 := by
  induction n with
  | zero => rfl
  | succ n ih => simp [Pop.ones, ih]
theorem ones_split {a x : Nat} (h : a ≤ 64) : Pop.ones 64 x = Pop.ones a x + Pop.ones (64 - a) (x / 2 ^ a) := by
  obtain ⟨n, hn⟩ : ∃ n, n = 64 := ⟨_, rfl⟩
  rw [← hn] at h ⊢
  have e : n = a + (n - a) := by omega
  rw [← Pop.ones_add, ← e]
theorem ones_low {a x : Nat} (h : x < 2 ^ a) (ha : a ≤ 64) : Pop.ones 64 x = Pop.ones a x := by
  rw [ones_split ha, Nat.div_eq_of_lt h, ones_zero, Nat.add_zero]
theorem ones_join {a m low v : Nat} (hl : low < 2 ^ a) (hv : v < 2 ^ m) (h : a + m ≤ 64) : Pop.ones 64 (low + 2 ^ a * v) = Pop.ones 64 low + Pop.ones 64 v := by
  have h1 := ones_split (a := a) (x := low + 2 ^ a * v) (by omega)
  have h2 : (low + 2 ^ a * v) / 2 ^ a = v := by rw [Nat.add_mul_div_left _ _ (Nat.two_pow_pos a), Nat.div_eq_of_lt hl, Nat.zero_add]
  have h3 : Pop.ones a (low + 2 ^ a * v) = Pop.ones a low := by
    rw [← Pop.ones_mod a (low + 2 ^ a * v), Nat.add_mul_mod_self_left, Pop.ones_mod]
  have h4 : v < 2 ^ (64 - a) := Nat.lt_of_lt_of_le hv (Nat.pow_le_pow_right (by decide) (by omega))
  rw [h1, h2, h3, ones_low hl (by omega), ones_low h4 (by omega)]
theorem ones_pack : ∀ (F : List Fd) (a low N : Nat), packB F (a : Int) = true → a ≤ 64 → low < 2 ^ a → (N : Int) = low + packV F (a : Int) → (∀ f, f ∈ F → 0 ≤ f.v) →
    Pop.ones 64 N = Pop.ones 64 low + sumOnes F
  | [], a, low, N, _, _, hl, hN, _ => by
    simp only [packV] at hN
    have : N = low := by omega
    rw [this, sumOnes, Nat.add_zero]
  | f :: F, a, low, N, h, ha, hl, hN, hv => by
    simp only [packB, setB, Bool.and_eq_true, decide_eq_true_eq] at h
    obtain ⟨⟨hf, hlt⟩, hr⟩ := h
    obtain ⟨k, m, e1, e2, h1, h2, h3⟩ := fieldB_nat hf
    obtain rfl : k = a := by omega
    have e3 : (k : Int) + f.b = ((k + m : Nat) : Int) := by omega
    rw [e3] at hr
    obtain ⟨v, hfv⟩ : ∃ v : Nat, f.v = v := ⟨f.v.toNat, by have := hv f List.mem_cons_self; omega⟩
    have hm : f.b.toNat = m := by omega
    rw [hm, hfv, Int.toNat_natCast] at hlt
    simp only [packV, Int.toNat_natCast, e3, hfv] at hN
    have hN2 : (N : Int) = ((low + 2 ^ k * v : Nat) : Int) + packV F ((k + m : Nat) : Int) := by rw [hN]; push_cast; omega
    rw [ones_pack F (k + m) (low + 2 ^ k * v) N hr h3 (low_step hl hlt) hN2 (fun g hg => hv g (List.mem_cons_of_mem _ hg)), ones_join hl hlt h3, sumOnes, hfv, Int.toNat_natCast]
    omega
theorem packV_lt : ∀ (F : List Fd) (a low N : Nat), packB F (a : Int) = true → a ≤ 64 → low < 2 ^ a → (N : Int) = low + packV F (a : Int) → (∀ f, f ∈ F → 0 ≤ f.v) → N < 18446744073709551616
  | [], a, low, N, _, ha, hl, hN, _ => by
    simp only [packV] at hN
    have h64 : 2 ^ a ≤ 2 ^ 64 := Nat.pow_le_pow_right (by decide) ha
    omega
  | f :: F, a, low, N, h, ha, hl, hN, hv => by
    simp only [packB, setB, Bool.and_eq_true, decide_eq_true_eq] at h
    obtain ⟨⟨hf, hlt⟩, hr⟩ := h
    obtain ⟨k, m, e1, e2, h1, h2, h3⟩ := fieldB_nat hf
    obtain rfl : k = a := by omega
    have e3 : (k : Int) + f.b = ((k + m : Nat) : Int) := by omega
    rw [e3] at hr
    obtain ⟨v, hfv⟩ : ∃ v : Nat, f.v = v := ⟨f.v.toNat, by have := hv f List.mem_cons_self; omega⟩
    have hm : f.b.toNat = m := by omega
    rw [hm, hfv, Int.toNat_natCast] at hlt
    simp only [packV, Int.toNat_natCast, e3, hfv] at hN
    have hN2 : (N : Int) = ((low + 2 ^ k * v : Nat) : Int) + packV F ((k + m : Nat) : Int) := by rw [hN]; push_cast; omega
    exact packV_lt F (k + m) (low + 2 ^ k * v) N hr h3 (low_step hl hlt) hN2 (fun g hg => hv g (List.mem_cons_of_mem _ hg))

/-- What is unpacked is packed to the word. -/
theorem pack_unpack : ∀ (L : List Int) (w a : Nat), unpackB (w : Int) L (a : Int) = true →
    packB (pairs L (unpackV (w : Int) L (a : Int))) (a : Int) = true ∧ packV (pairs L (unpackV (w : Int) L (a : Int))) (a : Int) = ((2 ^ a * (w / 2 ^ a) : Nat) : Int)
  | [], w, a, h => by
    simp only [unpackB, decide_eq_true_eq, Int.toNat_natCast] at h
    simp [pairs, unpackV, packB, packV, h]
  | n :: L, w, a, h => by
    simp only [unpackB, Bool.and_eq_true] at h
    obtain ⟨hf, hr⟩ := h
    obtain ⟨k, m, e1, rfl, h1, h2, h3⟩ := fieldB_nat hf
    obtain rfl : k = a := by omega
    have e3 : (k : Int) + (m : Int) = ((k + m : Nat) : Int) := by omega
    rw [e3] at hr
    obtain ⟨i1, i2⟩ := pack_unpack L w (k + m) hr
    have hg : getV (w : Int) (k : Int) (m : Int) = ((w / 2 ^ k % 2 ^ m : Nat) : Int) := rfl
    have hb : setB (k : Int) (m : Int) (getV (w : Int) (k : Int) (m : Int)) = true := by
      simp only [setB, hf, hg, Int.toNat_natCast, Nat.mod_lt _ (Nat.two_pow_pos m), decide_true, Bool.and_self]
    simp only [unpackV, pairs, packB, packV, hb, e3, i1, i2, Bool.and_self, true_and]
    rw [hg, Int.toNat_natCast, Int.toNat_natCast, ← Int.natCast_add]
    congr 1
    have h5 := Nat.div_add_mod (w / 2 ^ k) (2 ^ m)
    rw [Nat.div_div_eq_div_mul, ← Nat.pow_add] at h5
    rw [Nat.pow_add, Nat.mul_assoc, ← Nat.mul_add, ← Nat.pow_add]
    congr 1
    omega
theorem unpackV_len (w : Int) : ∀ (L : List Int) (a : Int), (unpackV w L a).length = L.length
  | [], _ => rfl
  | n :: L, a => by simp only [unpackV, List.length_cons, unpackV_len w L]
theorem unpackV_u (w : Nat) (hw : w < 18446744073709551616) : ∀ (L : List Int) (a : Int), ∀ v, v ∈ unpackV (w : Int) L a → u64 v
  | [], _, v, hv => by simp [unpackV] at hv
  | n :: L, a, v, hv => by
    simp only [unpackV, List.mem_cons] at hv
    rcases hv with rfl | hv
    · simp only [getV, Int.toNat_natCast]
      refine u64_of (Nat.lt_of_le_of_lt (Nat.mod_le _ _) (Nat.lt_of_le_of_lt (Nat.div_le_self _ _) hw))
    · exact unpackV_u w hw L _ v hv
end Go.Proofs.YtmchhjjdlcmhoaaDoor

