/- Caps: what Right tells of the fields. -/
import Derived.Test.YthegocjfnjfkdaaK3
namespace Go.Proofs.Ythegocjfnjfkdaa
open Go.D
set_option linter.all false
set_option maxRecDepth 100000
set_option maxHeartbeats 4000000

theorem ite_t {A : Prop} [Decidable A] {x : Bool} : (if A then x else false) = true ↔ A ∧ x = true := by split <;> simp [*]
theorem ite_f {A : Prop} [Decidable A] {x : Bool} : (if A then false else x) = true ↔ ¬ A ∧ x = true := by split <;> simp [*]
theorem uRaw_le {b : Int} (h : 4 ≤ b ∧ b ≤ 15) : 16 ≤ uRaw b ∧ uRaw b ≤ 32768 := by
  have : b = 4 ∨ b = 5 ∨ b = 6 ∨ b = 7 ∨ b = 8 ∨ b = 9 ∨ b = 10 ∨ b = 11 ∨ b = 12 ∨ b = 13 ∨ b = 14 ∨ b = 15 := by omega
  rcases this with rfl | rfl | rfl | rfl | rfl | rfl | rfl | rfl | rfl | rfl | rfl | rfl <;> decide
theorem nRaw_le {b : Int} (h : 1 ≤ b ∧ b ≤ 8) : 8 ≤ nRaw b ∧ nRaw b ≤ 1024 ∧ 0 ≤ IntKind.i64.wrap ((nRaw b).tdiv 4) ∧ IntKind.i64.wrap ((nRaw b).tdiv 4) ≤ 256 := by
  have : b = 1 ∨ b = 2 ∨ b = 3 ∨ b = 4 ∨ b = 5 ∨ b = 6 ∨ b = 7 ∨ b = 8 := by omega
  rcases this with rfl | rfl | rfl | rfl | rfl | rfl | rfl | rfl <;> decide
def gRaw (g : Int) : Int := IntKind.i64.wrap (IntKind.i64.wrap (1 * 2 ^ min g.toNat IntKind.i64.bits) - 1)
theorem gRaw_le {g : Int} (h : 0 ≤ g ∧ g ≤ 31) : gRaw g = 2 ^ g.toNat - 1 ∧ gRaw g ≤ 2147483647 := by
  obtain ⟨n, rfl⟩ : ∃ n : Nat, g = n := ⟨g.toNat, by omega⟩
  have hn : n < 32 := by omega
  have : ∀ n : Fin 32, gRaw ((n.val : Nat) : Int) = 2 ^ ((n.val : Nat) : Int).toNat - 1 ∧ gRaw ((n.val : Nat) : Int) ≤ 2147483647 := by decide
  exact this ⟨n, hn⟩

/-- The number that stands in the second word. -/
def Cap.num (c : Cap) : Int := c.mark + c.guard + c.badge + c.vaddr
structure Cap.RB (c : Cap) : Prop where
  ty : 0 ≤ c.ty ∧ c.ty ≤ 13
  obj : 0 ≤ c.obj ∧ c.obj ≤ 65535
  bits : 0 ≤ c.bits ∧ c.bits ≤ 31
  rights : 0 ≤ c.rights ∧ c.rights ≤ 7
  line : 0 ≤ c.line ∧ c.line ≤ 15
  asid : 0 ≤ c.asid ∧ c.asid ≤ 63
  gbits : 0 ≤ c.gbits ∧ c.gbits ≤ 31
  mark : 0 ≤ c.mark ∧ c.mark ≤ 32768
  guard : 0 ≤ c.guard ∧ c.guard ≤ 2147483647
  badge : 0 ≤ c.badge ∧ c.badge ≤ 268435455
  vaddr : 0 ≤ c.vaddr ∧ c.vaddr ≤ 65535
  one : if c.ty = 2 then c.mark = 0 ∧ c.badge = 0 ∧ c.vaddr = 0 else if c.ty = 4 ∨ c.ty = 5 then c.mark = 0 ∧ c.guard = 0 ∧ c.vaddr = 0 else if c.ty = 6 ∨ c.ty = 8 then c.mark = 0 ∧ c.guard = 0 ∧ c.badge = 0 else c.guard = 0 ∧ c.badge = 0 ∧ c.vaddr = 0

theorem right_bounds {c : Cap} (h : rightB c = true) : c.RB := by
  obtain ⟨t, o, b, d, e, g, i, j, k, l, m⟩ := c
  simp only [rightB] at h
  rcases kinds t with rfl | rfl | rfl | rfl | rfl | rfl | rfl | rfl | rfl | rfl | rfl | rfl | rfl | rfl | ⟨k0, k1, k2, k3, k4, k5, k6, k7, k8, k9, k10, k11, k12, k13, ho⟩
  all_goals try simp only [k0, k1, k2, k3, k4, k5, k6, k7, k8, k9, k10, k11, k12, k13, if_false] at h
  all_goals try simp only [Int.reduceEq, if_true, if_false, ite_t, ite_f, Bool.and_eq_true, inV_iff, mapV, Bool.or_eq_true, decide_eq_true_eq, beq_iff_eq, not_or, Classical.not_not, nOk_iff, and_true] at h
  case inr.inr.inr.inr.inr.inr.inr.inr.inr.inr.inr.inr.inr.inr => exact absurd h (by decide)
  case inr.inl =>
    have := uRaw_le h.1.1
    exact ⟨by simp, by simp only; omega, by simp only; omega, by simp only; omega, by simp only; omega, by simp only; omega, by simp only; omega, by simp only; omega, by simp only; omega, by simp only; omega, by simp only; omega, by simp only [Int.reduceEq, if_false, or_self]; omega⟩
  case inr.inr.inl =>
    have := nRaw_le h.1.1
    have := gRaw_le h.2.2.1
    simp only [gRaw] at this
    exact ⟨by simp, by simp only; omega, by simp only; omega, by simp only; omega, by simp only; omega, by simp only; omega, by simp only; omega, by simp only; omega, by simp only; omega, by simp only; omega, by simp only; omega, by simp only [if_true]; omega⟩
  case inr.inr.inr.inr.inr.inr.inr.inr.inr.inr.inl =>
    by_cases hb : b = 31
    · simp only [hb, if_true, inV_iff, true_and] at h ⊢
      exact ⟨by simp, by simp only; omega, by simp only; omega, by simp only; omega, by simp only; omega, by simp only; omega, by simp only; omega, by simp only; omega, by simp only; omega, by simp only; omega, by simp only; omega, by simp only [Int.reduceEq, if_false, or_self]; omega⟩
    · simp only [hb, if_false, inV_iff, nOk_iff] at h ⊢
      have := nRaw_le h.1.1
      exact ⟨by simp, by simp only; omega, by simp only; omega, by simp only; omega, by simp only; omega, by simp only; omega, by simp only; omega, by simp only; omega, by simp only; omega, by simp only; omega, by simp only; omega, by simp only [Int.reduceEq, if_false, or_self]; omega⟩
  all_goals exact ⟨by simp, by simp only; omega, by simp only; omega, by simp only; omega, by simp only; omega, by simp only; omega, by simp only; omega, by simp only; omega, by simp only; omega, by simp only; omega, by simp only; omega, by simp only [Int.reduceEq, if_false, if_true, or_self, or_true, or_false, true_or, false_or]; omega⟩
end Go.Proofs.Ythegocjfnjfkdaa
