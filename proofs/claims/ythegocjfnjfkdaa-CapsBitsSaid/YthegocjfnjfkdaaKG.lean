/- Caps: what was written is read. -/
import Derived.Test.YthegocjfnjfkdaaKF
namespace Go.Proofs.Ythegocjfnjfkdaa
open Go.D
set_option linter.all false
set_option maxRecDepth 100000
set_option maxHeartbeats 4000000

theorem Cap.ext' {c d : Cap} (h1 : c.ty = d.ty) (h2 : c.obj = d.obj) (h3 : c.bits = d.bits) (h4 : c.mark = d.mark) (h5 : c.guard = d.guard) (h6 : c.gbits = d.gbits) (h7 : c.badge = d.badge) (h8 : c.rights = d.rights) (h9 : c.asid = d.asid) (ha : c.vaddr = d.vaddr) (hb : c.line = d.line) : c = d := by
  cases c; cases d; simp_all
theorem enc_back {c : Cap} (h : rightB c = true) : u64 c.w0 ∧ u64 c.num ∧ decB c.w0 c.num = true ∧ decC c.w0 c.num = c := by
  obtain ⟨h1, h2, h3, h4, h5, h6, h7, h8, h9, h10, h11, one⟩ := right_bounds h
  have t0 : c.w0 % 16 = c.ty := by simp only [Cap.w0]; omega
  have e : decC c.w0 c.num = c := by
    apply Cap.ext'
    · exact t0
    · simp only [decC, Cap.w0]; omega
    · simp only [decC, Cap.w0]; omega
    · simp only [decC, t0, Cap.num]
      split at one
      · simp [*]
      · split at one
        · rename_i x; rcases x with x | x <;> simp [x, one]
        · split at one
          · rename_i x; rcases x with x | x <;> simp [x, one]
          · rename_i x y z; rw [if_neg (by omega)]; omega
    · simp only [decC, t0, Cap.num]
      split at one
      · rename_i x; rw [if_pos x]; omega
      · rename_i x; rw [if_neg x]
        split at one
        · omega
        · split at one <;> omega
    · simp only [decC, Cap.w0]; omega
    · simp only [decC, t0, Cap.num]
      split at one
      · rename_i x; rw [if_neg (by omega)]; omega
      · split at one
        · rename_i x; rw [if_pos x]; omega
        · rename_i x; rw [if_neg x]; split at one <;> omega
    · simp only [decC, Cap.w0]; omega
    · simp only [decC, Cap.w0]; omega
    · simp only [decC, t0, Cap.num]
      split at one
      · rw [if_neg (by omega)]; omega
      · split at one
        · rw [if_neg (by omega)]; omega
        · split at one
          · rename_i x; rw [if_pos x]; omega
          · rename_i x; rw [if_neg x]; omega
    · simp only [decC, Cap.w0]; omega
  refine ⟨by simp only [u64, Cap.w0]; omega, by simp only [u64, Cap.num]; omega, ?_, e⟩
  simp only [decB, e, h, Bool.and_true, Bool.and_eq_true, decide_eq_true_eq]
  constructor
  · simp only [Cap.w0]; omega
  · simp only [Cap.num]; omega
end Go.Proofs.Ythegocjfnjfkdaa
