/- The machine's memory: how it stands among the blocks. -/
import Derived.Test.YtpmobbehdpgnbaaGreatZ10
import Derived.Test.YtpmobbehdpgnbaaGreatZ14
import Derived.Test.YtpmobbehdpgnbaaGreatZ12
/- The document's Decode. -/
namespace Go.Proofs.YtpmobbehdpgnbaaGreat
open Go.D
open Nat (reduceAdd reducePow reduceMul reduceSub reduceLeDiff reduceLT reduceEqDiff)
open Int (reduceNeg reduceLE reduceEq reduceNe reduceToNat)
set_option linter.all false
set_option maxRecDepth 100000
set_option maxHeartbeats 4000000

theorem mark_zero {c : Cap} (h : rightB c = true) (h1 : ¬ c.ty = 1) (h2 : ¬ c.ty = 10) : c.mark = 0 := by
  obtain ⟨t, o, b, d, e, g, i, j, k, l, m⟩ := c
  simp only [rightB] at h h1 h2 ⊢
  rcases kinds t with rfl | rfl | rfl | rfl | rfl | rfl | rfl | rfl | rfl | rfl | rfl | rfl | rfl | rfl | ⟨k0, k1, k2, k3, k4, k5, k6, k7, k8, k9, k10, k11, k12, k13, ho⟩
  all_goals try simp only [k0, k1, k2, k3, k4, k5, k6, k7, k8, k9, k10, k11, k12, k13, if_false] at h
  all_goals try simp only [reduceEq, if_true, if_false, ite_t, ite_f, Bool.and_eq_true, inV_iff, mapV, Bool.or_eq_true, decide_eq_true_eq, beq_iff_eq, not_or, Classical.not_not, nOk_iff, and_true] at h
  case inr.inr.inr.inr.inr.inr.inr.inr.inr.inr.inr.inr.inr.inr => exact absurd h (by decide)
  case inr.inl => exact absurd rfl h1
  case inr.inr.inr.inr.inr.inr.inr.inr.inr.inr.inl => exact absurd rfl h2
  all_goals omega

theorem w0_back {w : Nat} : ((w : Int) % 16 + 16 * ((w : Int) / 16 % 65536) + 1048576 * ((w : Int) / 1048576 % 32) + 33554432 * ((w : Int) / 33554432 % 8) + 268435456 * ((w : Int) / 268435456 % 16) + 4294967296 * ((w : Int) / 4294967296 % 64) + 274877906944 * ((w : Int) / 274877906944 % 32) = w) ↔ (w : Int) / 8796093022208 = 0 := by
  omega

def TG : Tab := addT 133 encG noT
theorem TG_snd : TG.Snd Tryz.prog := addT_snd ok133 renc_snd (noT_snd _)
theorem rdec_snd : Snd Tryz.prog 142 (FSpec.of decG) := snd_run TG_snd mixed Tryz.func142 dc142 300 fun args h K hc hS => by
  unfold decG at hS
  split at hS
  · rename_i w0 w1
    obtain ⟨⟨hw0, hw1⟩, hS⟩ := hS
    obtain ⟨w0, rfl, hw0'⟩ := hw0.nat
    simp only [spec_br, spec_ok] at hS
    by_cases hB : w1 < 4294967296
    · have hB' : ¬ 4294967296 ≤ w1 := by omega
      have hb := w0_back (w := w0)
      have r0 : (w0 : Int).tmod 16 = (w0 : Int) % 16 := Int.tmod_eq_emod_of_nonneg (by omega)
      have r1 : ((w0 : Int) / 16).tmod 65536 = (w0 : Int) / 16 % 65536 := Int.tmod_eq_emod_of_nonneg (by omega)
      have r2 : ((w0 : Int) / 1048576).tmod 32 = (w0 : Int) / 1048576 % 32 := Int.tmod_eq_emod_of_nonneg (by omega)
      have r3 : ((w0 : Int) / 33554432).tmod 8 = (w0 : Int) / 33554432 % 8 := Int.tmod_eq_emod_of_nonneg (by omega)
      have r4 : ((w0 : Int) / 268435456).tmod 16 = (w0 : Int) / 268435456 % 16 := Int.tmod_eq_emod_of_nonneg (by omega)
      have r5 : ((w0 : Int) / 4294967296).tmod 64 = (w0 : Int) / 4294967296 % 64 := Int.tmod_eq_emod_of_nonneg (by omega)
      have r6 : ((w0 : Int) / 274877906944).tmod 32 = (w0 : Int) / 274877906944 % 32 := Int.tmod_eq_emod_of_nonneg (by omega)
      have i0 : IntKind.i64.wrap ((w0 : Int) % 16) = (w0 : Int) % 16 := wrap64 (by omega) (by omega)
      have i1 : IntKind.i64.wrap ((w0 : Int) / 16 % 65536) = (w0 : Int) / 16 % 65536 := wrap64 (by omega) (by omega)
      have i2 : IntKind.i64.wrap ((w0 : Int) / 1048576 % 32) = (w0 : Int) / 1048576 % 32 := wrap64 (by omega) (by omega)
      have i3 : IntKind.i64.wrap ((w0 : Int) / 33554432 % 8) = (w0 : Int) / 33554432 % 8 := wrap64 (by omega) (by omega)
      have i4 : IntKind.i64.wrap ((w0 : Int) / 268435456 % 16) = (w0 : Int) / 268435456 % 16 := wrap64 (by omega) (by omega)
      have i5 : IntKind.i64.wrap ((w0 : Int) / 4294967296 % 64) = (w0 : Int) / 4294967296 % 64 := wrap64 (by omega) (by omega)
      have i6 : IntKind.i64.wrap ((w0 : Int) / 274877906944 % 32) = (w0 : Int) / 274877906944 % 32 := wrap64 (by omega) (by omega)
      have i7 : IntKind.i64.wrap w1 = w1 := wrap64 (by have := hw1.1; omega) (by omega)
      have m4 : min 4 IntKind.u64.bits = 4 := rfl
      have m20 : min 20 IntKind.u64.bits = 20 := rfl
      have m25 : min 25 IntKind.u64.bits = 25 := rfl
      have m28 : min 28 IntKind.u64.bits = 28 := rfl
      have m32 : min 32 IntKind.u64.bits = 32 := rfl
      have m38 : min 38 IntKind.u64.bits = 38 := rfl
      simp only [decB, hB, decide_true, Bool.true_and, decC, Bool.and_eq_true, Bool.and_eq_false_iff, decide_eq_true_eq, decide_eq_false_iff_not] at hS
      rw [← hb] at hS
      have kk : (w0 : Int) % 16 = 1 ∨ (w0 : Int) % 16 = 10 ∨ (w0 : Int) % 16 = 2 ∨ (w0 : Int) % 16 = 4 ∨ (w0 : Int) % 16 = 5 ∨ (w0 : Int) % 16 = 6 ∨ (w0 : Int) % 16 = 8 ∨ (¬ (w0 : Int) % 16 = 1 ∧ ¬ (w0 : Int) % 16 = 10 ∧ ¬ (w0 : Int) % 16 = 2 ∧ ¬ (w0 : Int) % 16 = 4 ∧ ¬ (w0 : Int) % 16 = 5 ∧ ¬ (w0 : Int) % 16 = 6 ∧ ¬ (w0 : Int) % 16 = 8) := by omega
      clear hb
      obtain ⟨q0, e0⟩ : ∃ q, q = (w0 : Int) % 16 := ⟨_, rfl⟩
      obtain ⟨q1, e1⟩ : ∃ q, q = (w0 : Int) / 16 % 65536 := ⟨_, rfl⟩
      obtain ⟨q2, e2⟩ : ∃ q, q = (w0 : Int) / 1048576 % 32 := ⟨_, rfl⟩
      obtain ⟨q3, e3⟩ : ∃ q, q = (w0 : Int) / 33554432 % 8 := ⟨_, rfl⟩
      obtain ⟨q4, e4⟩ : ∃ q, q = (w0 : Int) / 268435456 % 16 := ⟨_, rfl⟩
      obtain ⟨q5, e5⟩ : ∃ q, q = (w0 : Int) / 4294967296 % 64 := ⟨_, rfl⟩
      obtain ⟨q6, e6⟩ : ∃ q, q = (w0 : Int) / 274877906944 % 32 := ⟨_, rfl⟩
      rw [← e0] at r0 i0 kk
      rw [← e1] at r1 i1
      rw [← e2] at r2 i2
      rw [← e3] at r3 i3
      rw [← e4] at r4 i4
      rw [← e5] at r5 i5
      rw [← e6] at r6 i6
      rw [← e0, ← e1, ← e2, ← e3, ← e4, ← e5, ← e6] at hS
      clear e0 e1 e2 e3 e4 e5 e6
      rcases kk with rfl | rfl | rfl | rfl | rfl | rfl | rfl | ⟨k1, k10, k2, k4, k5, k6, k8⟩
      case inl =>
        simp only [reduceEq, or_self, or_true, true_or, or_false, false_or, if_true, if_false] at hS
        cases hr : rightB ⟨1, q1, q2, w1, 0, q6, 0, q3, q5, 0, q4⟩ with
        | true =>
          have hn : (⟨1, q1, q2, w1, 0, q6, 0, q3, q5, 0, q4⟩ : Cap).num = w1 := by simp [Cap.num]
          simp (config := {maxSteps := 9999999}) only [EV0, istep, pickR, bin1R, un1R, eqS, eq1, cmpS, cmp1, isNil, leT, shows, rvC, result, List.set, List.replicate, Option.map, ↓q_cond_t, ↓q_cond_f, reduceCtorEq, reduceAdd, reducePow, Int.reducePow, reduceMul, reduceSub, reduceLeDiff, reduceLT, reduceEqDiff, reduceNeg, Int.reduceLT, reduceLE, reduceEq, reduceNe, Int.reduceAdd, Int.reduceSub, Int.reduceMul, reduceToNat, Int.reduceBEq, Int.reduceBNe, df142, TG, encG, capF, hB', r0, r1, r2, r3, r4, r5, r6, i0, i1, i2, i3, i4, i5, i6, i7, m4, m20, m25, m28, m32, m38, put, fillP, hr, hn]
          exact ⟨fun n => hS.2 (.inl n), fun n => hS.1 ⟨n, hr⟩⟩
        | false =>
          simp (config := {maxSteps := 9999999}) only [EV0, istep, pickR, bin1R, un1R, eqS, eq1, cmpS, cmp1, isNil, leT, shows, rvC, result, List.set, List.replicate, Option.map, ↓q_cond_t, ↓q_cond_f, reduceCtorEq, reduceAdd, reducePow, Int.reducePow, reduceMul, reduceSub, reduceLeDiff, reduceLT, reduceEqDiff, reduceNeg, Int.reduceLT, reduceLE, reduceEq, reduceNe, Int.reduceAdd, Int.reduceSub, Int.reduceMul, reduceToNat, Int.reduceBEq, Int.reduceBNe, df142, TG, encG, capF, hB', r0, r1, r2, r3, r4, r5, r6, i0, i1, i2, i3, i4, i5, i6, i7, m4, m20, m25, m28, m32, m38, put, fillP, hr]
          exact hS.2 (.inr hr)
      case inr.inl =>
        simp only [reduceEq, or_self, or_true, true_or, or_false, false_or, if_true, if_false] at hS
        cases hr : rightB ⟨10, q1, q2, w1, 0, q6, 0, q3, q5, 0, q4⟩ with
        | true =>
          have hn : (⟨10, q1, q2, w1, 0, q6, 0, q3, q5, 0, q4⟩ : Cap).num = w1 := by simp [Cap.num]
          simp (config := {maxSteps := 9999999}) only [EV0, istep, pickR, bin1R, un1R, eqS, eq1, cmpS, cmp1, isNil, leT, shows, rvC, result, List.set, List.replicate, Option.map, ↓q_cond_t, ↓q_cond_f, reduceCtorEq, reduceAdd, reducePow, Int.reducePow, reduceMul, reduceSub, reduceLeDiff, reduceLT, reduceEqDiff, reduceNeg, Int.reduceLT, reduceLE, reduceEq, reduceNe, Int.reduceAdd, Int.reduceSub, Int.reduceMul, reduceToNat, Int.reduceBEq, Int.reduceBNe, df142, TG, encG, capF, hB', r0, r1, r2, r3, r4, r5, r6, i0, i1, i2, i3, i4, i5, i6, i7, m4, m20, m25, m28, m32, m38, put, fillP, hr, hn]
          exact ⟨fun n => hS.2 (.inl n), fun n => hS.1 ⟨n, hr⟩⟩
        | false =>
          simp (config := {maxSteps := 9999999}) only [EV0, istep, pickR, bin1R, un1R, eqS, eq1, cmpS, cmp1, isNil, leT, shows, rvC, result, List.set, List.replicate, Option.map, ↓q_cond_t, ↓q_cond_f, reduceCtorEq, reduceAdd, reducePow, Int.reducePow, reduceMul, reduceSub, reduceLeDiff, reduceLT, reduceEqDiff, reduceNeg, Int.reduceLT, reduceLE, reduceEq, reduceNe, Int.reduceAdd, Int.reduceSub, Int.reduceMul, reduceToNat, Int.reduceBEq, Int.reduceBNe, df142, TG, encG, capF, hB', r0, r1, r2, r3, r4, r5, r6, i0, i1, i2, i3, i4, i5, i6, i7, m4, m20, m25, m28, m32, m38, put, fillP, hr]
          exact hS.2 (.inr hr)
      case inr.inr.inl =>
        simp only [reduceEq, or_self, or_true, true_or, or_false, false_or, if_true, if_false] at hS
        cases hr : rightB ⟨2, q1, q2, 0, w1, q6, 0, q3, q5, 0, q4⟩ with
        | true =>
          have hn : (⟨2, q1, q2, 0, w1, q6, 0, q3, q5, 0, q4⟩ : Cap).num = w1 := by simp [Cap.num]
          simp (config := {maxSteps := 9999999}) only [EV0, istep, pickR, bin1R, un1R, eqS, eq1, cmpS, cmp1, isNil, leT, shows, rvC, result, List.set, List.replicate, Option.map, ↓q_cond_t, ↓q_cond_f, reduceCtorEq, reduceAdd, reducePow, Int.reducePow, reduceMul, reduceSub, reduceLeDiff, reduceLT, reduceEqDiff, reduceNeg, Int.reduceLT, reduceLE, reduceEq, reduceNe, Int.reduceAdd, Int.reduceSub, Int.reduceMul, reduceToNat, Int.reduceBEq, Int.reduceBNe, df142, TG, encG, capF, hB', r0, r1, r2, r3, r4, r5, r6, i0, i1, i2, i3, i4, i5, i6, i7, m4, m20, m25, m28, m32, m38, put, fillP, hr, hn]
          exact ⟨fun n => hS.2 (.inl n), fun n => hS.1 ⟨n, hr⟩⟩
        | false =>
          simp (config := {maxSteps := 9999999}) only [EV0, istep, pickR, bin1R, un1R, eqS, eq1, cmpS, cmp1, isNil, leT, shows, rvC, result, List.set, List.replicate, Option.map, ↓q_cond_t, ↓q_cond_f, reduceCtorEq, reduceAdd, reducePow, Int.reducePow, reduceMul, reduceSub, reduceLeDiff, reduceLT, reduceEqDiff, reduceNeg, Int.reduceLT, reduceLE, reduceEq, reduceNe, Int.reduceAdd, Int.reduceSub, Int.reduceMul, reduceToNat, Int.reduceBEq, Int.reduceBNe, df142, TG, encG, capF, hB', r0, r1, r2, r3, r4, r5, r6, i0, i1, i2, i3, i4, i5, i6, i7, m4, m20, m25, m28, m32, m38, put, fillP, hr]
          exact hS.2 (.inr hr)
      case inr.inr.inr.inl =>
        simp only [reduceEq, or_self, or_true, true_or, or_false, false_or, if_true, if_false] at hS
        cases hr : rightB ⟨4, q1, q2, 0, 0, q6, w1, q3, q5, 0, q4⟩ with
        | true =>
          have hn : (⟨4, q1, q2, 0, 0, q6, w1, q3, q5, 0, q4⟩ : Cap).num = w1 := by simp [Cap.num]
          simp (config := {maxSteps := 9999999}) only [EV0, istep, pickR, bin1R, un1R, eqS, eq1, cmpS, cmp1, isNil, leT, shows, rvC, result, List.set, List.replicate, Option.map, ↓q_cond_t, ↓q_cond_f, reduceCtorEq, reduceAdd, reducePow, Int.reducePow, reduceMul, reduceSub, reduceLeDiff, reduceLT, reduceEqDiff, reduceNeg, Int.reduceLT, reduceLE, reduceEq, reduceNe, Int.reduceAdd, Int.reduceSub, Int.reduceMul, reduceToNat, Int.reduceBEq, Int.reduceBNe, df142, TG, encG, capF, hB', r0, r1, r2, r3, r4, r5, r6, i0, i1, i2, i3, i4, i5, i6, i7, m4, m20, m25, m28, m32, m38, put, fillP, hr, hn]
          exact ⟨fun n => hS.2 (.inl n), fun n => hS.1 ⟨n, hr⟩⟩
        | false =>
          simp (config := {maxSteps := 9999999}) only [EV0, istep, pickR, bin1R, un1R, eqS, eq1, cmpS, cmp1, isNil, leT, shows, rvC, result, List.set, List.replicate, Option.map, ↓q_cond_t, ↓q_cond_f, reduceCtorEq, reduceAdd, reducePow, Int.reducePow, reduceMul, reduceSub, reduceLeDiff, reduceLT, reduceEqDiff, reduceNeg, Int.reduceLT, reduceLE, reduceEq, reduceNe, Int.reduceAdd, Int.reduceSub, Int.reduceMul, reduceToNat, Int.reduceBEq, Int.reduceBNe, df142, TG, encG, capF, hB', r0, r1, r2, r3, r4, r5, r6, i0, i1, i2, i3, i4, i5, i6, i7, m4, m20, m25, m28, m32, m38, put, fillP, hr]
          exact hS.2 (.inr hr)
      case inr.inr.inr.inr.inl =>
        simp only [reduceEq, or_self, or_true, true_or, or_false, false_or, if_true, if_false] at hS
        cases hr : rightB ⟨5, q1, q2, 0, 0, q6, w1, q3, q5, 0, q4⟩ with
        | true =>
          have hn : (⟨5, q1, q2, 0, 0, q6, w1, q3, q5, 0, q4⟩ : Cap).num = w1 := by simp [Cap.num]
          simp (config := {maxSteps := 9999999}) only [EV0, istep, pickR, bin1R, un1R, eqS, eq1, cmpS, cmp1, isNil, leT, shows, rvC, result, List.set, List.replicate, Option.map, ↓q_cond_t, ↓q_cond_f, reduceCtorEq, reduceAdd, reducePow, Int.reducePow, reduceMul, reduceSub, reduceLeDiff, reduceLT, reduceEqDiff, reduceNeg, Int.reduceLT, reduceLE, reduceEq, reduceNe, Int.reduceAdd, Int.reduceSub, Int.reduceMul, reduceToNat, Int.reduceBEq, Int.reduceBNe, df142, TG, encG, capF, hB', r0, r1, r2, r3, r4, r5, r6, i0, i1, i2, i3, i4, i5, i6, i7, m4, m20, m25, m28, m32, m38, put, fillP, hr, hn]
          exact ⟨fun n => hS.2 (.inl n), fun n => hS.1 ⟨n, hr⟩⟩
        | false =>
          simp (config := {maxSteps := 9999999}) only [EV0, istep, pickR, bin1R, un1R, eqS, eq1, cmpS, cmp1, isNil, leT, shows, rvC, result, List.set, List.replicate, Option.map, ↓q_cond_t, ↓q_cond_f, reduceCtorEq, reduceAdd, reducePow, Int.reducePow, reduceMul, reduceSub, reduceLeDiff, reduceLT, reduceEqDiff, reduceNeg, Int.reduceLT, reduceLE, reduceEq, reduceNe, Int.reduceAdd, Int.reduceSub, Int.reduceMul, reduceToNat, Int.reduceBEq, Int.reduceBNe, df142, TG, encG, capF, hB', r0, r1, r2, r3, r4, r5, r6, i0, i1, i2, i3, i4, i5, i6, i7, m4, m20, m25, m28, m32, m38, put, fillP, hr]
          exact hS.2 (.inr hr)
      case inr.inr.inr.inr.inr.inl =>
        simp only [reduceEq, or_self, or_true, true_or, or_false, false_or, if_true, if_false] at hS
        cases hr : rightB ⟨6, q1, q2, 0, 0, q6, 0, q3, q5, w1, q4⟩ with
        | true =>
          have hn : (⟨6, q1, q2, 0, 0, q6, 0, q3, q5, w1, q4⟩ : Cap).num = w1 := by simp [Cap.num]
          simp (config := {maxSteps := 9999999}) only [EV0, istep, pickR, bin1R, un1R, eqS, eq1, cmpS, cmp1, isNil, leT, shows, rvC, result, List.set, List.replicate, Option.map, ↓q_cond_t, ↓q_cond_f, reduceCtorEq, reduceAdd, reducePow, Int.reducePow, reduceMul, reduceSub, reduceLeDiff, reduceLT, reduceEqDiff, reduceNeg, Int.reduceLT, reduceLE, reduceEq, reduceNe, Int.reduceAdd, Int.reduceSub, Int.reduceMul, reduceToNat, Int.reduceBEq, Int.reduceBNe, df142, TG, encG, capF, hB', r0, r1, r2, r3, r4, r5, r6, i0, i1, i2, i3, i4, i5, i6, i7, m4, m20, m25, m28, m32, m38, put, fillP, hr, hn]
          exact ⟨fun n => hS.2 (.inl n), fun n => hS.1 ⟨n, hr⟩⟩
        | false =>
          simp (config := {maxSteps := 9999999}) only [EV0, istep, pickR, bin1R, un1R, eqS, eq1, cmpS, cmp1, isNil, leT, shows, rvC, result, List.set, List.replicate, Option.map, ↓q_cond_t, ↓q_cond_f, reduceCtorEq, reduceAdd, reducePow, Int.reducePow, reduceMul, reduceSub, reduceLeDiff, reduceLT, reduceEqDiff, reduceNeg, Int.reduceLT, reduceLE, reduceEq, reduceNe, Int.reduceAdd, Int.reduceSub, Int.reduceMul, reduceToNat, Int.reduceBEq, Int.reduceBNe, df142, TG, encG, capF, hB', r0, r1, r2, r3, r4, r5, r6, i0, i1, i2, i3, i4, i5, i6, i7, m4, m20, m25, m28, m32, m38, put, fillP, hr]
          exact hS.2 (.inr hr)
      case inr.inr.inr.inr.inr.inr.inl =>
        simp only [reduceEq, or_self, or_true, true_or, or_false, false_or, if_true, if_false] at hS
        cases hr : rightB ⟨8, q1, q2, 0, 0, q6, 0, q3, q5, w1, q4⟩ with
        | true =>
          have hn : (⟨8, q1, q2, 0, 0, q6, 0, q3, q5, w1, q4⟩ : Cap).num = w1 := by simp [Cap.num]
          simp (config := {maxSteps := 9999999}) only [EV0, istep, pickR, bin1R, un1R, eqS, eq1, cmpS, cmp1, isNil, leT, shows, rvC, result, List.set, List.replicate, Option.map, ↓q_cond_t, ↓q_cond_f, reduceCtorEq, reduceAdd, reducePow, Int.reducePow, reduceMul, reduceSub, reduceLeDiff, reduceLT, reduceEqDiff, reduceNeg, Int.reduceLT, reduceLE, reduceEq, reduceNe, Int.reduceAdd, Int.reduceSub, Int.reduceMul, reduceToNat, Int.reduceBEq, Int.reduceBNe, df142, TG, encG, capF, hB', r0, r1, r2, r3, r4, r5, r6, i0, i1, i2, i3, i4, i5, i6, i7, m4, m20, m25, m28, m32, m38, put, fillP, hr, hn]
          exact ⟨fun n => hS.2 (.inl n), fun n => hS.1 ⟨n, hr⟩⟩
        | false =>
          simp (config := {maxSteps := 9999999}) only [EV0, istep, pickR, bin1R, un1R, eqS, eq1, cmpS, cmp1, isNil, leT, shows, rvC, result, List.set, List.replicate, Option.map, ↓q_cond_t, ↓q_cond_f, reduceCtorEq, reduceAdd, reducePow, Int.reducePow, reduceMul, reduceSub, reduceLeDiff, reduceLT, reduceEqDiff, reduceNeg, Int.reduceLT, reduceLE, reduceEq, reduceNe, Int.reduceAdd, Int.reduceSub, Int.reduceMul, reduceToNat, Int.reduceBEq, Int.reduceBNe, df142, TG, encG, capF, hB', r0, r1, r2, r3, r4, r5, r6, i0, i1, i2, i3, i4, i5, i6, i7, m4, m20, m25, m28, m32, m38, put, fillP, hr]
          exact hS.2 (.inr hr)
      case inr.inr.inr.inr.inr.inr.inr =>
        simp only [k2, k4, k5, k6, k8, or_self, if_false] at hS
        have hz : ¬ w1 = 0 → rightB ⟨q0, q1, q2, w1, 0, q6, 0, q3, q5, 0, q4⟩ = false := fun n => Bool.eq_false_iff.2 fun x => n (mark_zero x k1 k10)
        cases hr : rightB ⟨q0, q1, q2, 0, 0, q6, 0, q3, q5, 0, q4⟩ with
        | true =>
          have hn : (⟨q0, q1, q2, 0, 0, q6, 0, q3, q5, 0, q4⟩ : Cap).num = 0 := by simp [Cap.num]
          simp (config := {maxSteps := 9999999}) only [EV0, istep, pickR, bin1R, un1R, eqS, eq1, cmpS, cmp1, isNil, leT, shows, rvC, result, List.set, List.replicate, Option.map, ↓q_cond_t, ↓q_cond_f, reduceCtorEq, reduceAdd, reducePow, Int.reducePow, reduceMul, reduceSub, reduceLeDiff, reduceLT, reduceEqDiff, reduceNeg, Int.reduceLT, reduceLE, reduceEq, reduceNe, Int.reduceAdd, Int.reduceSub, Int.reduceMul, reduceToNat, Int.reduceBEq, Int.reduceBNe, df142, TG, encG, capF, hB', r0, r1, r2, r3, r4, r5, r6, i0, i1, i2, i3, i4, i5, i6, i7, m4, m20, m25, m28, m32, m38, put, fillP, hr, hn, k1, k10, k2, k4, k5, k6, k8]
          refine ⟨fun n => n.elim (fun x => hS.2 (.inl x)) (fun x => hS.2 (.inr (hz (fun e => x e.symm)))), fun n => ?_⟩
          have hw : 0 = w1 := Classical.byContradiction fun x => n (.inr x)
          subst hw
          exact hS.1 ⟨Classical.byContradiction fun x => n (.inl x), hr⟩
        | false =>
          simp (config := {maxSteps := 9999999}) only [EV0, istep, pickR, bin1R, un1R, eqS, eq1, cmpS, cmp1, isNil, leT, shows, rvC, result, List.set, List.replicate, Option.map, ↓q_cond_t, ↓q_cond_f, reduceCtorEq, reduceAdd, reducePow, Int.reducePow, reduceMul, reduceSub, reduceLeDiff, reduceLT, reduceEqDiff, reduceNeg, Int.reduceLT, reduceLE, reduceEq, reduceNe, Int.reduceAdd, Int.reduceSub, Int.reduceMul, reduceToNat, Int.reduceBEq, Int.reduceBNe, df142, TG, encG, capF, hB', r0, r1, r2, r3, r4, r5, r6, i0, i1, i2, i3, i4, i5, i6, i7, m4, m20, m25, m28, m32, m38, put, fillP, hr, k1, k10, k2, k4, k5, k6, k8]
          by_cases hw : w1 = 0
          · subst hw; exact hS.2 (.inr hr)
          · exact hS.2 (.inr (hz hw))
    · have hB' : 4294967296 ≤ w1 := by omega
      simp only [decB, hB, decide_false, Bool.false_and, Bool.and_false] at hS
      simp (config := {maxSteps := 9999999}) only [EV0, istep, pickR, bin1R, un1R, eqS, eq1, cmpS, cmp1, isNil, leT, shows, rvC, result, List.set, List.replicate, Option.map, ↓q_cond_t, ↓q_cond_f, reduceCtorEq, reduceAdd, reducePow, Int.reducePow, reduceMul, reduceSub, reduceLeDiff, reduceLT, reduceEqDiff, reduceNeg, Int.reduceLT, reduceLE, reduceEq, reduceNe, Int.reduceAdd, Int.reduceSub, Int.reduceMul, reduceToNat, Int.reduceBEq, Int.reduceBNe, df142, TG, encG, capF, hB', put, fillP]
      exact hS.2 trivial
  · exact hS.elim
end Go.Proofs.YtpmobbehdpgnbaaGreat

/- Caps: Words, Same. -/
namespace Go.Proofs.YtpmobbehdpgnbaaGreat
open Go.D
set_option linter.all false
set_option maxRecDepth 100000
set_option maxHeartbeats 4000000





theorem dec_back {w0 w1 : Int} (h0 : u64 w0) (h : decB w0 w1 = true) : rightB (decC w0 w1) = true ∧ (decC w0 w1).w0 = w0 ∧ (decC w0 w1).num = w1 := by
  obtain ⟨w, rfl, hw⟩ := h0.nat
  simp only [decB, Bool.and_eq_true, decide_eq_true_eq] at h
  refine ⟨h.2.2, w0_back.2 h.1, ?_⟩
  simp only [decC, Cap.num]
  split <;> split <;> split <;> split <;> omega

theorem cap_eta (c : Cap) : (⟨c.ty, c.obj, c.bits, c.mark, c.guard, c.gbits, c.badge, c.rights, c.asid, c.vaddr, c.line⟩ : Cap) = c := rfl

theorem Cap.ext' {c d : Cap} (h1 : c.ty = d.ty) (h2 : c.obj = d.obj) (h3 : c.bits = d.bits) (h4 : c.mark = d.mark) (h5 : c.guard = d.guard) (h6 : c.gbits = d.gbits) (h7 : c.badge = d.badge) (h8 : c.rights = d.rights) (h9 : c.asid = d.asid) (ha : c.vaddr = d.vaddr) (hb : c.line = d.line) : c = d := by
  cases c; cases d; simp_all
theorem enc_back {c : Cap} (h : rightB c = true) : u64 c.w0 ∧ u64 c.num ∧ decB c.w0 c.num = true ∧ decC c.w0 c.num = c := by
  obtain ⟨h1, h2, h3, h4, h5, h6, h7, h8, h9, h10, h11, one⟩ := right_bounds h
  have t0 : c.w0 % 16 = c.ty := by simp only [Cap.w0]; omega
  have e : decC c.w0 c.num = c := by
    apply Cap.ext'
    · exact t0
    · simp only [decC, Cap.w0]; omega
    · simp only [decC, Cap.w0]; omega
    · simp only [decC, t0, Cap.num]
      split at one
      · simp [*]
      · split at one
        · rename_i x; rcases x with x | x <;> simp [x, one]
        · split at one
          · rename_i x; rcases x with x | x <;> simp [x, one]
          · rename_i x y z; rw [if_neg (by omega)]; omega
    · simp only [decC, t0, Cap.num]
      split at one
      · rename_i x; rw [if_pos x]; omega
      · rename_i x; rw [if_neg x]
        split at one
        · omega
        · split at one <;> omega
    · simp only [decC, Cap.w0]; omega
    · simp only [decC, t0, Cap.num]
      split at one
      · rename_i x; rw [if_neg (by omega)]; omega
      · split at one
        · rename_i x; rw [if_pos x]; omega
        · rename_i x; rw [if_neg x]; split at one <;> omega
    · simp only [decC, Cap.w0]; omega
    · simp only [decC, Cap.w0]; omega
    · simp only [decC, t0, Cap.num]
      split at one
      · rw [if_neg (by omega)]; omega
      · split at one
        · rw [if_neg (by omega)]; omega
        · split at one
          · rename_i x; rw [if_pos x]; omega
          · rename_i x; rw [if_neg x]; omega
    · simp only [decC, Cap.w0]; omega
  refine ⟨by simp only [u64, Cap.w0]; omega, by simp only [u64, Cap.num]; omega, ?_, e⟩
  simp only [decB, e, h, Bool.and_true, Bool.and_eq_true, decide_eq_true_eq]
  constructor
  · simp only [Cap.w0]; omega
  · simp only [Cap.num]; omega

def uw (x : Int) : Int := x % 18446744073709551616
theorem uw_u (x : Int) : u64 (uw x) := by simp only [u64, uw]; omega
theorem uw_of {x : Int} (h : u64 x) : uw x = x := by simp only [u64, uw] at *; omega
theorem u64_0 : u64 0 := by simp only [u64]; omega

structure M where
  w : List Int
  n : Int
  u : ∀ x, x ∈ w → u64 x
  l : w.length ≤ 65536
theorem M.ext' {m k : M} (h1 : m.w = k.w) (h2 : m.n = k.n) : m = k := by
  cases m; cases k; simp only at h1 h2; subst h1; subst h2; rfl

def wc (w : List Int) : List S := w.map (S.i .u64)
theorem wc_len (w : List Int) : (wc w).length = w.length := by simp [wc]
theorem wc_get {w : List Int} {i : Nat} (h : i < w.length) : (wc w)[i]? = some (.i .u64 (nth 0 w i)) := by
  simp only [wc, List.getElem?_map, nth_get (d := 0) h, Option.map_some]
theorem wc_set (w : List Int) (i : Nat) (x : Int) : (wc w).set i (.i .u64 x) = wc (w.set i x) := by simp [wc, List.map_set]
theorem wc_all {p : S → Bool} (hp : ∀ x, p (.i .u64 x) = true) (w : List Int) : (wc w).all p = true := by simp [wc, hp]
theorem wc_known (w : List Int) : known (wc w) = true := by unfold known; exact wc_all (fun _ => rfl) w
theorem wc_vals (n k : Nat) (w : List Int) : vals n k (wc w) = true := by unfold vals; exact wc_all (fun _ => rfl) w
theorem wc_takes (r : R) (n k : Nat) (w : List Int) : (wc w).all (r.takes n k) = true := wc_all (fun _ => by cases r <;> rfl) w
theorem wc_names (k : Nat) (w : List Int) : (wc w).all (fun s => !s.names k) = true := wc_all (fun _ => rfl) w
theorem wc_kept (k : List Nat) (w : List Int) : (wc w).all (S.kept k) = true := wc_all (fun _ => rfl) w
theorem wc_sub (w : List Int) (a k : Nat) : sub (wc w) a k = wc ((w.drop a).take k) := by simp [wc, sub, List.map_take, List.map_drop]
theorem wc_cons (x : Int) (w : List Int) : wc (x :: w) = .i .u64 x :: wc w := rfl
theorem wc_inj {v w : List Int} (h : wc v = wc w) : v = w := by
  induction v generalizing w with
  | nil => cases w with
    | nil => rfl
    | cons y w => simp [wc] at h
  | cons x v ih => cases w with
    | nil => simp [wc] at h
    | cons y w =>
      simp only [wc, List.map_cons, List.cons.injEq, S.i.injEq, true_and] at h
      rw [h.1, ih h.2]
theorem wc_ren (ρ : R → R) (w : List Int) : (wc w).map (S.ren ρ) = wc w := by simp [wc, Function.comp_def, S.ren]
theorem wc_zeros (n : Nat) : zeros [.i .u64 0] n = wc (List.replicate n 0) := by
  induction n with
  | zero => rfl
  | succ n ih => simp only [zeros, ih, List.replicate_succ, wc_cons, List.cons_append, List.nil_append]
theorem wc_map (w : List Int) : w.map (S.i .u64) = wc w := rfl

def M.at (m : M) (i : Int) : Int := nth 0 m.w i.toNat
theorem nth_mem {α : Type} {d : α} {l : List α} {i : Nat} (h : i < l.length) : nth d l i ∈ l := by rw [nth_eq h]; exact List.getElem_mem h
theorem nth_out {α : Type} {d : α} : ∀ {l : List α} {i : Nat}, l.length ≤ i → nth d l i = d
  | [], _, _ => rfl
  | _ :: _, 0, h => by simp at h
  | _ :: l, i + 1, h => nth_out (l := l) (by simpa using h)
theorem M.at_u (m : M) (i : Int) : u64 (m.at i) := by
  unfold M.at
  rcases Nat.lt_or_ge i.toNat m.w.length with h | h
  · exact m.u _ (nth_mem h)
  · rw [nth_out h]; exact u64_0

def M.put (m : M) (i : Nat) (x : Int) : M := ⟨m.w.set i (uw x), m.n, fun y hy => by
  rcases List.mem_or_eq_of_mem_set hy with h | h
  · exact m.u y h
  · subst h; exact uw_u x, by simpa using m.l⟩
def M.tick (m : M) (k : Int) : M := ⟨m.w, IntKind.i64.wrap (m.n + k), m.u, m.l⟩
def M.fill (m : M) (a : Nat) (x : Int) : Nat → M
  | 0 => m
  | k + 1 => (M.fill m a x k).put (a + k) x
def M.lay (m : M) (o : Nat) : List Int → M
  | [] => m
  | v :: vs => M.lay (m.put o v) (o + 1) vs
def M.has (m : M) (a k : Int) : Bool := decide (0 ≤ a ∧ 0 ≤ k ∧ a ≤ m.w.length ∧ k ≤ m.w.length - a)
theorem M.has_iff {m : M} {a k : Int} : m.has a k = true ↔ 0 ≤ a ∧ 0 ≤ k ∧ a ≤ m.w.length ∧ k ≤ m.w.length - a := by simp [M.has]
theorem M.has_nat {m : M} {a k : Int} (h : m.has a k = true) : ∃ i j : Nat, a = i ∧ k = j ∧ i + j ≤ m.w.length := by
  rw [M.has_iff] at h
  exact ⟨a.toNat, k.toNat, by omega, by omega, by omega⟩
theorem M.has_not {m : M} {a k : Int} (h : m.has a k = false) : ¬ (0 ≤ a ∧ 0 ≤ k ∧ a ≤ m.w.length ∧ k ≤ m.w.length - a) := by simpa [M.has] using h

theorem M.put_len (m : M) (i : Nat) (x : Int) : (m.put i x).w.length = m.w.length := by simp [M.put]
theorem M.tick_len (m : M) (k : Int) : (m.tick k).w.length = m.w.length := rfl
theorem M.fill_len (m : M) (a : Nat) (x : Int) : ∀ k, (m.fill a x k).w.length = m.w.length
  | 0 => rfl
  | k + 1 => by rw [M.fill, M.put_len, M.fill_len m a x k]
theorem M.lay_len : ∀ (vs : List Int) (m : M) (o : Nat), (m.lay o vs).w.length = m.w.length
  | [], _, _ => rfl
  | v :: vs, m, o => by rw [M.lay, M.lay_len vs, M.put_len]
theorem M.put_has (m : M) (i : Nat) (x a k : Int) : (m.put i x).has a k = m.has a k := by simp only [M.has, M.put_len]
theorem M.tick_has (m : M) (j a k : Int) : (m.tick j).has a k = m.has a k := rfl
theorem M.put_n (m : M) (i : Nat) (x : Int) : (m.put i x).n = m.n := rfl
theorem M.fill_n (m : M) (a : Nat) (x : Int) : ∀ k, (m.fill a x k).n = m.n
  | 0 => rfl
  | k + 1 => by rw [M.fill, M.put_n, M.fill_n m a x k]
theorem M.lay_n : ∀ (vs : List Int) (m : M) (o : Nat), (m.lay o vs).n = m.n
  | [], _, _ => rfl
  | v :: vs, m, o => by rw [M.lay, M.lay_n vs, M.put_n]
theorem M.lay_w : ∀ (vs : List Int) (m : M) (o : Nat), (∀ x, x ∈ vs → u64 x) → D.put (wc m.w) o (wc vs) = wc (m.lay o vs).w
  | [], _, _, _ => rfl
  | v :: vs, m, o, hu => by
    simp only [wc_cons, M.lay]
    rw [show D.put (wc m.w) o (S.i .u64 v :: wc vs) = D.put ((wc m.w).set o (.i .u64 v)) (o + 1) (wc vs) from rfl]
    rw [wc_set, show v = uw v from (uw_of (hu v (by simp))).symm]
    rw [show m.w.set o (uw v) = (m.put o v).w from rfl, M.lay_w vs (m.put o v) (o + 1) (fun x hx => hu x (by simp [hx]))]
    rw [← show v = uw v from (uw_of (hu v (by simp))).symm]

/-! ### among the blocks -/
def MB (b : Nat) (m : M) : Blk := ⟨.rw, [.sl (.g b) 0 m.w.length m.w.length, .i .i64 m.n], 2⟩
def MW (m : M) : Blk := ⟨.rw, wc m.w, m.w.length⟩
structure IsMem (h : List Blk) (a b : Nat) (m : M) : Prop where
  ne : a ≠ b
  ha : h[a]? = some (MB b m)
  hb : h[b]? = some (MW m)
def setM (h : List Blk) (a b : Nat) (m : M) : List Blk := (h.set a (MB b m)).set b (MW m)

theorem IsMem.lta {h : List Blk} {a b : Nat} {m : M} (H : IsMem h a b m) : a < h.length := (List.getElem?_eq_some_iff.1 H.ha).1
theorem IsMem.ltb {h : List Blk} {a b : Nat} {m : M} (H : IsMem h a b m) : b < h.length := (List.getElem?_eq_some_iff.1 H.hb).1
theorem setM_len {h : List Blk} {a b : Nat} {m : M} : (setM h a b m).length = h.length := by simp [setM]
theorem IsMem.set {h : List Blk} {a b : Nat} {m : M} (H : IsMem h a b m) (m' : M) : IsMem (setM h a b m') a b m' := by
  refine ⟨H.ne, ?_, ?_⟩
  · simp only [setM]
    rw [List.getElem?_set_ne (Ne.symm H.ne), List.getElem?_set_self H.lta]
  · simp only [setM]
    rw [List.getElem?_set_self (by simpa using H.ltb)]
theorem setM_set {h : List Blk} {a b : Nat} {m m' : M} (ne : a ≠ b) : setM (setM h a b m) a b m' = setM h a b m' := by
  simp only [setM]
  rw [List.set_comm _ _ ne, List.set_set, List.set_comm _ _ ne, List.set_set, List.set_comm _ _ (Ne.symm ne)]
theorem setM_self {h : List Blk} {a b : Nat} {m : M} (H : IsMem h a b m) : setM h a b m = h := by
  simp only [setM]
  rw [set_self H.ha, set_self H.hb]
theorem setM_fun {h : List Blk} {a b : Nat} {m m0 : M} (H : IsMem h a b m0) : setM (setM h a b m) a b = setM h a b := funext fun m' => setM_set H.ne
theorem IsMem.app {h X : List Blk} {a b : Nat} {m : M} (H : IsMem h a b m) : IsMem (h ++ X) a b m :=
  ⟨H.ne, by rw [List.getElem?_append_left H.lta]; exact H.ha, by rw [List.getElem?_append_left H.ltb]; exact H.hb⟩
theorem setM_app {h X : List Blk} {a b : Nat} {m m' : M} (H : IsMem h a b m) : setM (h ++ X) a b m' = setM h a b m' ++ X := by
  simp only [setM]
  rw [app_setl H.lta, app_setl (by simpa using H.ltb)]
theorem setM_words {h : List Blk} {a b : Nat} {m m' : M} (H : IsMem h a b m) (hl : m'.w.length = m.w.length) (hn : m'.n = m.n) : h.set b (MW m') = setM h a b m' := by
  simp only [setM]
  rw [show MB b m' = MB b m by simp only [MB, hl, hn], set_self H.ha]
theorem setM_steps {h : List Blk} {a b : Nat} {m m' : M} (H : IsMem h a b m) (hw : m'.w = m.w) : h.set a (MB b m') = setM h a b m' := by
  simp only [setM]
  rw [List.set_comm _ _ H.ne, show MW m' = MW m by simp only [MW, hw], set_self H.hb]
theorem IsMem.uniq {h : List Blk} {a b b' : Nat} {m m' : M} (H : IsMem h a b m) (H' : IsMem h a b' m') : b = b' ∧ m = m' := by
  have h1 := H.ha.symm.trans H'.ha
  simp only [MB, Option.some.injEq, Blk.mk.injEq, List.cons.injEq, S.sl.injEq, R.g.injEq, S.i.injEq, true_and, and_true] at h1
  obtain ⟨⟨e, _, _⟩, e2⟩ := h1
  subst e
  have h2 := H.hb.symm.trans H'.hb
  simp only [MW, Option.some.injEq, Blk.mk.injEq, true_and] at h2
  exact ⟨rfl, M.ext' (wc_inj h2.1) e2⟩
theorem setM_clean {h : List Blk} {a b : Nat} {m m0 : M} {n : Nat} (H : IsMem h a b m0) (hc : clean n h = true) (hn : b < n) : clean n (setM h a b m) = true := by
  refine clean_set (clean_set hc ?_) (wc_vals _ _ _)
  simp [MB, vals, S.val, R.val, hn]

open Classical in
noncomputable def memOf (h : List Blk) (a : Nat) : Option (Nat × M) := if hx : ∃ x : Nat × M, IsMem h a x.1 x.2 then some (Classical.choose hx) else none
theorem memOf_eq {h : List Blk} {a b : Nat} {m : M} (H : IsMem h a b m) : memOf h a = some (b, m) := by
  have hx : ∃ x : Nat × M, IsMem h a x.1 x.2 := ⟨(b, m), H⟩
  unfold memOf
  rw [dif_pos hx]
  have := IsMem.uniq (Classical.choose_spec hx) H
  rw [show Classical.choose hx = (b, m) from Prod.ext this.1 this.2]
theorem memOf_some {h : List Blk} {a b : Nat} {m : M} (e : memOf h a = some (b, m)) : IsMem h a b m := by
  unfold memOf at e
  split at e
  · rename_i hx
    have := Classical.choose_spec hx
    rw [Option.some.injEq] at e
    rw [e] at this
    exact this
  · cases e

noncomputable def memF (f : Nat → M → (M → List Blk) → List V → Res) : List V → List Blk → Res
  | .s (.p (.g a) 0) :: rest, h => match memOf h a with
    | some (b, m) => f b m (setM h a b) rest
    | none => .bad
  | _, _ => .bad
theorem memF_spec {f : Nat → M → (M → List Blk) → List V → Res} {args : List V} {h : List Blk} {K : V → List Blk → Prop} (hS : (memF f args h).spec K) :
    ∃ a b m rest, args = .s (.p (.g a) 0) :: rest ∧ IsMem h a b m ∧ (f b m (setM h a b) rest).spec K := by
  unfold memF at hS
  split at hS
  · split at hS
    · rename_i e
      exact ⟨_, _, _, _, rfl, memOf_some e, hS⟩
    · exact hS.elim
  · exact hS.elim
theorem memF_eq {f : Nat → M → (M → List Blk) → List V → Res} {h : List Blk} {a b : Nat} {m : M} {rest : List V} (H : IsMem h a b m) : memF f (.s (.p (.g a) 0) :: rest) h = f b m (setM h a b) rest := by
  simp only [memF, memOf_eq H]
theorem memF_set {f : Nat → M → (M → List Blk) → List V → Res} {h : List Blk} {a b : Nat} {m m' : M} {rest : List V} (H : IsMem h a b m) : memF f (.s (.p (.g a) 0) :: rest) (setM h a b m') = f b m' (setM h a b) rest := by
  rw [memF_eq (H.set m'), setM_fun H]
theorem memF_app {f : Nat → M → (M → List Blk) → List V → Res} {h X : List Blk} {a b : Nat} {m m' : M} {rest : List V} (H : IsMem h a b m) : memF f (.s (.p (.g a) 0) :: rest) (setM h a b m' ++ X) = f b m' (fun m => setM h a b m ++ X) rest := by
  rw [memF_eq ((H.set m').app), show setM (setM h a b m' ++ X) a b = fun m => setM h a b m ++ X from funext fun k => by rw [setM_app (H.set m'), setM_set H.ne]]
theorem memF_app0 {f : Nat → M → (M → List Blk) → List V → Res} {h X : List Blk} {a b : Nat} {m : M} {rest : List V} (H : IsMem h a b m) : memF f (.s (.p (.g a) 0) :: rest) (h ++ X) = f b m (fun m => setM h a b m ++ X) rest := by
  rw [memF_eq H.app, show setM (h ++ X) a b = fun m => setM h a b m ++ X from funext fun k => by rw [setM_app H]]

/-! ### new memories -/
def memH (h : List Blk) (m : M) : List Blk := h ++ [MB (h.length + 1) m, MW m]
theorem memH_len {h : List Blk} {m : M} : (memH h m).length = h.length + 2 := by simp [memH]
theorem memH_is (h : List Blk) (m : M) : IsMem (memH h m) h.length (h.length + 1) m := by
  refine ⟨by omega, ?_, ?_⟩
  · simp only [memH]; rw [app_get0]; rfl
  · simp only [memH]; rw [app_getn]; rfl
theorem memH_set (h : List Blk) (m m' : M) : setM (memH h m) h.length (h.length + 1) m' = memH h m' := by
  simp only [memH, setM]
  rw [app_set0, app_setn]; rfl
theorem memH_fun (h : List Blk) (m : M) : setM (memH h m) h.length (h.length + 1) = memH h := funext (memH_set h m)
theorem memF_new {f : Nat → M → (M → List Blk) → List V → Res} {h : List Blk} {m : M} {rest : List V} : memF f (.s (.p (.g h.length) 0) :: rest) (memH h m) = f (h.length + 1) m (memH h) rest := by
  rw [memF_eq (memH_is h m), memH_fun]
theorem memH_is1 (h : List Blk) (m k : M) : IsMem (memH (memH h m) k) h.length (h.length + 1) m := (memH_is h m).app
theorem memH_is2 (h : List Blk) (m k : M) : IsMem (memH (memH h m) k) (h.length + 2) (h.length + 3) k := by
  have := memH_is (memH h m) k
  rw [memH_len] at this
  exact this
theorem memH_set1 (h : List Blk) (m k m' : M) : setM (memH (memH h m) k) h.length (h.length + 1) m' = memH (memH h m') k := by
  show setM (memH h m ++ [MB ((memH h m).length + 1) k, MW k]) _ _ _ = _
  rw [setM_app (memH_is h m), memH_set]
  simp [memH]
theorem memH_set2 (h : List Blk) (m k m' : M) : setM (memH (memH h m) k) (h.length + 2) (h.length + 3) m' = memH (memH h m) m' := by
  have := memH_set (memH h m) k m'
  rw [memH_len] at this
  exact this
end Go.Proofs.YtpmobbehdpgnbaaGreat

