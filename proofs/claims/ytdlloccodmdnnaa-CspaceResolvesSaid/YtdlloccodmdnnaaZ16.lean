/- Caps: what was written is read. -/
import Derived.Test.YtdlloccodmdnnaaZ10
import Derived.Test.YtdlloccodmdnnaaZ14
import Derived.Test.YtdlloccodmdnnaaZ15
/- The document's Decode. -/
namespace Go.Proofs.Ytdlloccodmdnnaa
open Go.D
set_option linter.all false
set_option maxRecDepth 100000
set_option maxHeartbeats 4000000

theorem mark_zero {c : Cap} (h : rightB c = true) (h1 : ¬ c.ty = 1) (h2 : ¬ c.ty = 10) : c.mark = 0 := by
  obtain ⟨t, o, b, d, e, g, i, j, k, l, m⟩ := c
  simp only [rightB] at h h1 h2 ⊢
  rcases kinds t with rfl | rfl | rfl | rfl | rfl | rfl | rfl | rfl | rfl | rfl | rfl | rfl | rfl | rfl | ⟨k0, k1, k2, k3, k4, k5, k6, k7, k8, k9, k10, k11, k12, k13, ho⟩
  all_goals try simp only [k0, k1, k2, k3, k4, k5, k6, k7, k8, k9, k10, k11, k12, k13, if_false] at h
  all_goals try simp only [Int.reduceEq, if_true, if_false, ite_t, ite_f, Bool.and_eq_true, inV_iff, mapV, Bool.or_eq_true, decide_eq_true_eq, beq_iff_eq, not_or, Classical.not_not, nOk_iff, and_true] at h
  case inr.inr.inr.inr.inr.inr.inr.inr.inr.inr.inr.inr.inr.inr => exact absurd h (by decide)
  case inr.inl => exact absurd rfl h1
  case inr.inr.inr.inr.inr.inr.inr.inr.inr.inr.inl => exact absurd rfl h2
  all_goals omega

theorem w0_back {w : Nat} : ((w : Int) % 16 + 16 * ((w : Int) / 16 % 65536) + 1048576 * ((w : Int) / 1048576 % 32) + 33554432 * ((w : Int) / 33554432 % 8) + 268435456 * ((w : Int) / 268435456 % 16) + 4294967296 * ((w : Int) / 4294967296 % 64) + 274877906944 * ((w : Int) / 274877906944 % 32) = w) ↔ (w : Int) / 8796093022208 = 0 := by
  omega

def TG : Tab := addT 90 encG noT
theorem TG_snd : TG.Snd Try.prog := addT_snd ok90 renc_snd (noT_snd _)
theorem rdec_snd : Snd Try.prog 101 (FSpec.of decG) := snd_run TG_snd mixed Try.func101 dc101 300 fun args h K hc hS => by
  unfold decG at hS
  split at hS
  · rename_i w0 w1
    obtain ⟨⟨hw0, hw1⟩, hS⟩ := hS
    obtain ⟨w0, rfl, hw0'⟩ := hw0.nat
    simp only [spec_br, spec_ok] at hS
    by_cases hB : w1 < 4294967296
    · have hB' : ¬ 4294967296 ≤ w1 := by omega
      have hb := w0_back (w := w0)
      have r0 : (w0 : Int).tmod 16 = (w0 : Int) % 16 := Int.tmod_eq_emod_of_nonneg (by omega)
      have r1 : ((w0 : Int) / 16).tmod 65536 = (w0 : Int) / 16 % 65536 := Int.tmod_eq_emod_of_nonneg (by omega)
      have r2 : ((w0 : Int) / 1048576).tmod 32 = (w0 : Int) / 1048576 % 32 := Int.tmod_eq_emod_of_nonneg (by omega)
      have r3 : ((w0 : Int) / 33554432).tmod 8 = (w0 : Int) / 33554432 % 8 := Int.tmod_eq_emod_of_nonneg (by omega)
      have r4 : ((w0 : Int) / 268435456).tmod 16 = (w0 : Int) / 268435456 % 16 := Int.tmod_eq_emod_of_nonneg (by omega)
      have r5 : ((w0 : Int) / 4294967296).tmod 64 = (w0 : Int) / 4294967296 % 64 := Int.tmod_eq_emod_of_nonneg (by omega)
      have r6 : ((w0 : Int) / 274877906944).tmod 32 = (w0 : Int) / 274877906944 % 32 := Int.tmod_eq_emod_of_nonneg (by omega)
      have i0 : IntKind.i64.wrap ((w0 : Int) % 16) = (w0 : Int) % 16 := wrap64 (by omega) (by omega)
      have i1 : IntKind.i64.wrap ((w0 : Int) / 16 % 65536) = (w0 : Int) / 16 % 65536 := wrap64 (by omega) (by omega)
      have i2 : IntKind.i64.wrap ((w0 : Int) / 1048576 % 32) = (w0 : Int) / 1048576 % 32 := wrap64 (by omega) (by omega)
      have i3 : IntKind.i64.wrap ((w0 : Int) / 33554432 % 8) = (w0 : Int) / 33554432 % 8 := wrap64 (by omega) (by omega)
      have i4 : IntKind.i64.wrap ((w0 : Int) / 268435456 % 16) = (w0 : Int) / 268435456 % 16 := wrap64 (by omega) (by omega)
      have i5 : IntKind.i64.wrap ((w0 : Int) / 4294967296 % 64) = (w0 : Int) / 4294967296 % 64 := wrap64 (by omega) (by omega)
      have i6 : IntKind.i64.wrap ((w0 : Int) / 274877906944 % 32) = (w0 : Int) / 274877906944 % 32 := wrap64 (by omega) (by omega)
      have i7 : IntKind.i64.wrap w1 = w1 := wrap64 (by have := hw1.1; omega) (by omega)
      have m4 : min 4 IntKind.u64.bits = 4 := rfl
      have m20 : min 20 IntKind.u64.bits = 20 := rfl
      have m25 : min 25 IntKind.u64.bits = 25 := rfl
      have m28 : min 28 IntKind.u64.bits = 28 := rfl
      have m32 : min 32 IntKind.u64.bits = 32 := rfl
      have m38 : min 38 IntKind.u64.bits = 38 := rfl
      simp only [decB, hB, decide_true, Bool.true_and, decC, Bool.and_eq_true, Bool.and_eq_false_iff, decide_eq_true_eq, decide_eq_false_iff_not] at hS
      rw [← hb] at hS
      have kk : (w0 : Int) % 16 = 1 ∨ (w0 : Int) % 16 = 10 ∨ (w0 : Int) % 16 = 2 ∨ (w0 : Int) % 16 = 4 ∨ (w0 : Int) % 16 = 5 ∨ (w0 : Int) % 16 = 6 ∨ (w0 : Int) % 16 = 8 ∨ (¬ (w0 : Int) % 16 = 1 ∧ ¬ (w0 : Int) % 16 = 10 ∧ ¬ (w0 : Int) % 16 = 2 ∧ ¬ (w0 : Int) % 16 = 4 ∧ ¬ (w0 : Int) % 16 = 5 ∧ ¬ (w0 : Int) % 16 = 6 ∧ ¬ (w0 : Int) % 16 = 8) := by omega
      clear hb
      obtain ⟨q0, e0⟩ : ∃ q, q = (w0 : Int) % 16 := ⟨_, rfl⟩
      obtain ⟨q1, e1⟩ : ∃ q, q = (w0 : Int) / 16 % 65536 := ⟨_, rfl⟩
      obtain ⟨q2, e2⟩ : ∃ q, q = (w0 : Int) / 1048576 % 32 := ⟨_, rfl⟩
      obtain ⟨q3, e3⟩ : ∃ q, q = (w0 : Int) / 33554432 % 8 := ⟨_, rfl⟩
      obtain ⟨q4, e4⟩ : ∃ q, q = (w0 : Int) / 268435456 % 16 := ⟨_, rfl⟩
      obtain ⟨q5, e5⟩ : ∃ q, q = (w0 : Int) / 4294967296 % 64 := ⟨_, rfl⟩
      obtain ⟨q6, e6⟩ : ∃ q, q = (w0 : Int) / 274877906944 % 32 := ⟨_, rfl⟩
      rw [← e0] at r0 i0 kk
      rw [← e1] at r1 i1
      rw [← e2] at r2 i2
      rw [← e3] at r3 i3
      rw [← e4] at r4 i4
      rw [← e5] at r5 i5
      rw [← e6] at r6 i6
      rw [← e0, ← e1, ← e2, ← e3, ← e4, ← e5, ← e6] at hS
      clear e0 e1 e2 e3 e4 e5 e6
      rcases kk with rfl | rfl | rfl | rfl | rfl | rfl | rfl | ⟨k1, k10, k2, k4, k5, k6, k8⟩
      case inl =>
        simp only [Int.reduceEq, or_self, or_true, true_or, or_false, false_or, if_true, if_false] at hS
        cases hr : rightB ⟨1, q1, q2, w1, 0, q6, 0, q3, q5, 0, q4⟩ with
        | true =>
          have hn : (⟨1, q1, q2, w1, 0, q6, 0, q3, q5, 0, q4⟩ : Cap).num = w1 := by simp [Cap.num]
          simp (config := { maxSteps := 10000000 }) only [run_drx, run_xd, run_xq, run_xg, run_xb, EV1, EV2, EV3, EV4, EV5, EV6, addT, istep, lenR_sl, lenR_ns, lenR_es, pickR, putD, bin1R, un1R, slcR, bnd, capsOf, fillP, S_plain, V_plain, V.cells, S_known, V_known, C.v, blk, setL, setH, eqS, eq1, cmpS, cmp1, isNil, popTo, killT, setT, leT, V.below, C.below, S_below, R.below, V.val, C.val, S_val, R.val, R.takes, vals, shows, List.any_cons, List.any_nil, unnamed, V.kill, V.names, C.names, S_names, R.names, List.set, List.replicate, ↓q_cond_t, ↓q_cond_f, if_true, if_false, reduceCtorEq, rvals, rvC, result, C_known, V.noL, C.noL, S_noL, R.noL, Option.map, true_and, and_true, ge_iff_le, gt_iff_lt, implies_true, q_ite_t, q_ite_f, beq_iff_eq, bne_iff_ne, q_ne, Nat.reduceAdd, Nat.reducePow, Int.reducePow, Nat.reduceMul, Nat.reduceSub, Nat.reduceLeDiff, Nat.reduceLT, Nat.reduceEqDiff, Int.reduceNeg, Int.reduceLT, Int.reduceLE, Int.reduceEq, Int.reduceNe, Int.reduceAdd, Int.reduceSub, Int.reduceMul, Int.reduceToNat, Int.reduceBEq, Int.reduceBNe, df101, TG, encG, capF, hB', r0, r1, r2, r3, r4, r5, r6, i0, i1, i2, i3, i4, i5, i6, i7, m4, m20, m25, m28, m32, m38, put, fillP, hr, hn]
          exact ⟨fun n => hS.2 (.inl n), fun n => hS.1 ⟨n, hr⟩⟩
        | false =>
          simp (config := { maxSteps := 10000000 }) only [run_drx, run_xd, run_xq, run_xg, run_xb, EV1, EV2, EV3, EV4, EV5, EV6, addT, istep, lenR_sl, lenR_ns, lenR_es, pickR, putD, bin1R, un1R, slcR, bnd, capsOf, fillP, S_plain, V_plain, V.cells, S_known, V_known, C.v, blk, setL, setH, eqS, eq1, cmpS, cmp1, isNil, popTo, killT, setT, leT, V.below, C.below, S_below, R.below, V.val, C.val, S_val, R.val, R.takes, vals, shows, List.any_cons, List.any_nil, unnamed, V.kill, V.names, C.names, S_names, R.names, List.set, List.replicate, ↓q_cond_t, ↓q_cond_f, if_true, if_false, reduceCtorEq, rvals, rvC, result, C_known, V.noL, C.noL, S_noL, R.noL, Option.map, true_and, and_true, ge_iff_le, gt_iff_lt, implies_true, q_ite_t, q_ite_f, beq_iff_eq, bne_iff_ne, q_ne, Nat.reduceAdd, Nat.reducePow, Int.reducePow, Nat.reduceMul, Nat.reduceSub, Nat.reduceLeDiff, Nat.reduceLT, Nat.reduceEqDiff, Int.reduceNeg, Int.reduceLT, Int.reduceLE, Int.reduceEq, Int.reduceNe, Int.reduceAdd, Int.reduceSub, Int.reduceMul, Int.reduceToNat, Int.reduceBEq, Int.reduceBNe, df101, TG, encG, capF, hB', r0, r1, r2, r3, r4, r5, r6, i0, i1, i2, i3, i4, i5, i6, i7, m4, m20, m25, m28, m32, m38, put, fillP, hr]
          exact hS.2 (.inr hr)
      case inr.inl =>
        simp only [Int.reduceEq, or_self, or_true, true_or, or_false, false_or, if_true, if_false] at hS
        cases hr : rightB ⟨10, q1, q2, w1, 0, q6, 0, q3, q5, 0, q4⟩ with
        | true =>
          have hn : (⟨10, q1, q2, w1, 0, q6, 0, q3, q5, 0, q4⟩ : Cap).num = w1 := by simp [Cap.num]
          simp (config := { maxSteps := 10000000 }) only [run_drx, run_xd, run_xq, run_xg, run_xb, EV1, EV2, EV3, EV4, EV5, EV6, addT, istep, lenR_sl, lenR_ns, lenR_es, pickR, putD, bin1R, un1R, slcR, bnd, capsOf, fillP, S_plain, V_plain, V.cells, S_known, V_known, C.v, blk, setL, setH, eqS, eq1, cmpS, cmp1, isNil, popTo, killT, setT, leT, V.below, C.below, S_below, R.below, V.val, C.val, S_val, R.val, R.takes, vals, shows, List.any_cons, List.any_nil, unnamed, V.kill, V.names, C.names, S_names, R.names, List.set, List.replicate, ↓q_cond_t, ↓q_cond_f, if_true, if_false, reduceCtorEq, rvals, rvC, result, C_known, V.noL, C.noL, S_noL, R.noL, Option.map, true_and, and_true, ge_iff_le, gt_iff_lt, implies_true, q_ite_t, q_ite_f, beq_iff_eq, bne_iff_ne, q_ne, Nat.reduceAdd, Nat.reducePow, Int.reducePow, Nat.reduceMul, Nat.reduceSub, Nat.reduceLeDiff, Nat.reduceLT, Nat.reduceEqDiff, Int.reduceNeg, Int.reduceLT, Int.reduceLE, Int.reduceEq, Int.reduceNe, Int.reduceAdd, Int.reduceSub, Int.reduceMul, Int.reduceToNat, Int.reduceBEq, Int.reduceBNe, df101, TG, encG, capF, hB', r0, r1, r2, r3, r4, r5, r6, i0, i1, i2, i3, i4, i5, i6, i7, m4, m20, m25, m28, m32, m38, put, fillP, hr, hn]
          exact ⟨fun n => hS.2 (.inl n), fun n => hS.1 ⟨n, hr⟩⟩
        | false =>
          simp (config := { maxSteps := 10000000 }) only [run_drx, run_xd, run_xq, run_xg, run_xb, EV1, EV2, EV3, EV4, EV5, EV6, addT, istep, lenR_sl, lenR_ns, lenR_es, pickR, putD, bin1R, un1R, slcR, bnd, capsOf, fillP, S_plain, V_plain, V.cells, S_known, V_known, C.v, blk, setL, setH, eqS, eq1, cmpS, cmp1, isNil, popTo, killT, setT, leT, V.below, C.below, S_below, R.below, V.val, C.val, S_val, R.val, R.takes, vals, shows, List.any_cons, List.any_nil, unnamed, V.kill, V.names, C.names, S_names, R.names, List.set, List.replicate, ↓q_cond_t, ↓q_cond_f, if_true, if_false, reduceCtorEq, rvals, rvC, result, C_known, V.noL, C.noL, S_noL, R.noL, Option.map, true_and, and_true, ge_iff_le, gt_iff_lt, implies_true, q_ite_t, q_ite_f, beq_iff_eq, bne_iff_ne, q_ne, Nat.reduceAdd, Nat.reducePow, Int.reducePow, Nat.reduceMul, Nat.reduceSub, Nat.reduceLeDiff, Nat.reduceLT, Nat.reduceEqDiff, Int.reduceNeg, Int.reduceLT, Int.reduceLE, Int.reduceEq, Int.reduceNe, Int.reduceAdd, Int.reduceSub, Int.reduceMul, Int.reduceToNat, Int.reduceBEq, Int.reduceBNe, df101, TG, encG, capF, hB', r0, r1, r2, r3, r4, r5, r6, i0, i1, i2, i3, i4, i5, i6, i7, m4, m20, m25, m28, m32, m38, put, fillP, hr]
          exact hS.2 (.inr hr)
      case inr.inr.inl =>
        simp only [Int.reduceEq, or_self, or_true, true_or, or_false, false_or, if_true, if_false] at hS
        cases hr : rightB ⟨2, q1, q2, 0, w1, q6, 0, q3, q5, 0, q4⟩ with
        | true =>
          have hn : (⟨2, q1, q2, 0, w1, q6, 0, q3, q5, 0, q4⟩ : Cap).num = w1 := by simp [Cap.num]
          simp (config := { maxSteps := 10000000 }) only [run_drx, run_xd, run_xq, run_xg, run_xb, EV1, EV2, EV3, EV4, EV5, EV6, addT, istep, lenR_sl, lenR_ns, lenR_es, pickR, putD, bin1R, un1R, slcR, bnd, capsOf, fillP, S_plain, V_plain, V.cells, S_known, V_known, C.v, blk, setL, setH, eqS, eq1, cmpS, cmp1, isNil, popTo, killT, setT, leT, V.below, C.below, S_below, R.below, V.val, C.val, S_val, R.val, R.takes, vals, shows, List.any_cons, List.any_nil, unnamed, V.kill, V.names, C.names, S_names, R.names, List.set, List.replicate, ↓q_cond_t, ↓q_cond_f, if_true, if_false, reduceCtorEq, rvals, rvC, result, C_known, V.noL, C.noL, S_noL, R.noL, Option.map, true_and, and_true, ge_iff_le, gt_iff_lt, implies_true, q_ite_t, q_ite_f, beq_iff_eq, bne_iff_ne, q_ne, Nat.reduceAdd, Nat.reducePow, Int.reducePow, Nat.reduceMul, Nat.reduceSub, Nat.reduceLeDiff, Nat.reduceLT, Nat.reduceEqDiff, Int.reduceNeg, Int.reduceLT, Int.reduceLE, Int.reduceEq, Int.reduceNe, Int.reduceAdd, Int.reduceSub, Int.reduceMul, Int.reduceToNat, Int.reduceBEq, Int.reduceBNe, df101, TG, encG, capF, hB', r0, r1, r2, r3, r4, r5, r6, i0, i1, i2, i3, i4, i5, i6, i7, m4, m20, m25, m28, m32, m38, put, fillP, hr, hn]
          exact ⟨fun n => hS.2 (.inl n), fun n => hS.1 ⟨n, hr⟩⟩
        | false =>
          simp (config := { maxSteps := 10000000 }) only [run_drx, run_xd, run_xq, run_xg, run_xb, EV1, EV2, EV3, EV4, EV5, EV6, addT, istep, lenR_sl, lenR_ns, lenR_es, pickR, putD, bin1R, un1R, slcR, bnd, capsOf, fillP, S_plain, V_plain, V.cells, S_known, V_known, C.v, blk, setL, setH, eqS, eq1, cmpS, cmp1, isNil, popTo, killT, setT, leT, V.below, C.below, S_below, R.below, V.val, C.val, S_val, R.val, R.takes, vals, shows, List.any_cons, List.any_nil, unnamed, V.kill, V.names, C.names, S_names, R.names, List.set, List.replicate, ↓q_cond_t, ↓q_cond_f, if_true, if_false, reduceCtorEq, rvals, rvC, result, C_known, V.noL, C.noL, S_noL, R.noL, Option.map, true_and, and_true, ge_iff_le, gt_iff_lt, implies_true, q_ite_t, q_ite_f, beq_iff_eq, bne_iff_ne, q_ne, Nat.reduceAdd, Nat.reducePow, Int.reducePow, Nat.reduceMul, Nat.reduceSub, Nat.reduceLeDiff, Nat.reduceLT, Nat.reduceEqDiff, Int.reduceNeg, Int.reduceLT, Int.reduceLE, Int.reduceEq, Int.reduceNe, Int.reduceAdd, Int.reduceSub, Int.reduceMul, Int.reduceToNat, Int.reduceBEq, Int.reduceBNe, df101, TG, encG, capF, hB', r0, r1, r2, r3, r4, r5, r6, i0, i1, i2, i3, i4, i5, i6, i7, m4, m20, m25, m28, m32, m38, put, fillP, hr]
          exact hS.2 (.inr hr)
      case inr.inr.inr.inl =>
        simp only [Int.reduceEq, or_self, or_true, true_or, or_false, false_or, if_true, if_false] at hS
        cases hr : rightB ⟨4, q1, q2, 0, 0, q6, w1, q3, q5, 0, q4⟩ with
        | true =>
          have hn : (⟨4, q1, q2, 0, 0, q6, w1, q3, q5, 0, q4⟩ : Cap).num = w1 := by simp [Cap.num]
          simp (config := { maxSteps := 10000000 }) only [run_drx, run_xd, run_xq, run_xg, run_xb, EV1, EV2, EV3, EV4, EV5, EV6, addT, istep, lenR_sl, lenR_ns, lenR_es, pickR, putD, bin1R, un1R, slcR, bnd, capsOf, fillP, S_plain, V_plain, V.cells, S_known, V_known, C.v, blk, setL, setH, eqS, eq1, cmpS, cmp1, isNil, popTo, killT, setT, leT, V.below, C.below, S_below, R.below, V.val, C.val, S_val, R.val, R.takes, vals, shows, List.any_cons, List.any_nil, unnamed, V.kill, V.names, C.names, S_names, R.names, List.set, List.replicate, ↓q_cond_t, ↓q_cond_f, if_true, if_false, reduceCtorEq, rvals, rvC, result, C_known, V.noL, C.noL, S_noL, R.noL, Option.map, true_and, and_true, ge_iff_le, gt_iff_lt, implies_true, q_ite_t, q_ite_f, beq_iff_eq, bne_iff_ne, q_ne, Nat.reduceAdd, Nat.reducePow, Int.reducePow, Nat.reduceMul, Nat.reduceSub, Nat.reduceLeDiff, Nat.reduceLT, Nat.reduceEqDiff, Int.reduceNeg, Int.reduceLT, Int.reduceLE, Int.reduceEq, Int.reduceNe, Int.reduceAdd, Int.reduceSub, Int.reduceMul, Int.reduceToNat, Int.reduceBEq, Int.reduceBNe, df101, TG, encG, capF, hB', r0, r1, r2, r3, r4, r5, r6, i0, i1, i2, i3, i4, i5, i6, i7, m4, m20, m25, m28, m32, m38, put, fillP, hr, hn]
          exact ⟨fun n => hS.2 (.inl n), fun n => hS.1 ⟨n, hr⟩⟩
        | false =>
          simp (config := { maxSteps := 10000000 }) only [run_drx, run_xd, run_xq, run_xg, run_xb, EV1, EV2, EV3, EV4, EV5, EV6, addT, istep, lenR_sl, lenR_ns, lenR_es, pickR, putD, bin1R, un1R, slcR, bnd, capsOf, fillP, S_plain, V_plain, V.cells, S_known, V_known, C.v, blk, setL, setH, eqS, eq1, cmpS, cmp1, isNil, popTo, killT, setT, leT, V.below, C.below, S_below, R.below, V.val, C.val, S_val, R.val, R.takes, vals, shows, List.any_cons, List.any_nil, unnamed, V.kill, V.names, C.names, S_names, R.names, List.set, List.replicate, ↓q_cond_t, ↓q_cond_f, if_true, if_false, reduceCtorEq, rvals, rvC, result, C_known, V.noL, C.noL, S_noL, R.noL, Option.map, true_and, and_true, ge_iff_le, gt_iff_lt, implies_true, q_ite_t, q_ite_f, beq_iff_eq, bne_iff_ne, q_ne, Nat.reduceAdd, Nat.reducePow, Int.reducePow, Nat.reduceMul, Nat.reduceSub, Nat.reduceLeDiff, Nat.reduceLT, Nat.reduceEqDiff, Int.reduceNeg, Int.reduceLT, Int.reduceLE, Int.reduceEq, Int.reduceNe, Int.reduceAdd, Int.reduceSub, Int.reduceMul, Int.reduceToNat, Int.reduceBEq, Int.reduceBNe, df101, TG, encG, capF, hB', r0, r1, r2, r3, r4, r5, r6, i0, i1, i2, i3, i4, i5, i6, i7, m4, m20, m25, m28, m32, m38, put, fillP, hr]
          exact hS.2 (.inr hr)
      case inr.inr.inr.inr.inl =>
        simp only [Int.reduceEq, or_self, or_true, true_or, or_false, false_or, if_true, if_false] at hS
        cases hr : rightB ⟨5, q1, q2, 0, 0, q6, w1, q3, q5, 0, q4⟩ with
        | true =>
          have hn : (⟨5, q1, q2, 0, 0, q6, w1, q3, q5, 0, q4⟩ : Cap).num = w1 := by simp [Cap.num]
          simp (config := { maxSteps := 10000000 }) only [run_drx, run_xd, run_xq, run_xg, run_xb, EV1, EV2, EV3, EV4, EV5, EV6, addT, istep, lenR_sl, lenR_ns, lenR_es, pickR, putD, bin1R, un1R, slcR, bnd, capsOf, fillP, S_plain, V_plain, V.cells, S_known, V_known, C.v, blk, setL, setH, eqS, eq1, cmpS, cmp1, isNil, popTo, killT, setT, leT, V.below, C.below, S_below, R.below, V.val, C.val, S_val, R.val, R.takes, vals, shows, List.any_cons, List.any_nil, unnamed, V.kill, V.names, C.names, S_names, R.names, List.set, List.replicate, ↓q_cond_t, ↓q_cond_f, if_true, if_false, reduceCtorEq, rvals, rvC, result, C_known, V.noL, C.noL, S_noL, R.noL, Option.map, true_and, and_true, ge_iff_le, gt_iff_lt, implies_true, q_ite_t, q_ite_f, beq_iff_eq, bne_iff_ne, q_ne, Nat.reduceAdd, Nat.reducePow, Int.reducePow, Nat.reduceMul, Nat.reduceSub, Nat.reduceLeDiff, Nat.reduceLT, Nat.reduceEqDiff, Int.reduceNeg, Int.reduceLT, Int.reduceLE, Int.reduceEq, Int.reduceNe, Int.reduceAdd, Int.reduceSub, Int.reduceMul, Int.reduceToNat, Int.reduceBEq, Int.reduceBNe, df101, TG, encG, capF, hB', r0, r1, r2, r3, r4, r5, r6, i0, i1, i2, i3, i4, i5, i6, i7, m4, m20, m25, m28, m32, m38, put, fillP, hr, hn]
          exact ⟨fun n => hS.2 (.inl n), fun n => hS.1 ⟨n, hr⟩⟩
        | false =>
          simp (config := { maxSteps := 10000000 }) only [run_drx, run_xd, run_xq, run_xg, run_xb, EV1, EV2, EV3, EV4, EV5, EV6, addT, istep, lenR_sl, lenR_ns, lenR_es, pickR, putD, bin1R, un1R, slcR, bnd, capsOf, fillP, S_plain, V_plain, V.cells, S_known, V_known, C.v, blk, setL, setH, eqS, eq1, cmpS, cmp1, isNil, popTo, killT, setT, leT, V.below, C.below, S_below, R.below, V.val, C.val, S_val, R.val, R.takes, vals, shows, List.any_cons, List.any_nil, unnamed, V.kill, V.names, C.names, S_names, R.names, List.set, List.replicate, ↓q_cond_t, ↓q_cond_f, if_true, if_false, reduceCtorEq, rvals, rvC, result, C_known, V.noL, C.noL, S_noL, R.noL, Option.map, true_and, and_true, ge_iff_le, gt_iff_lt, implies_true, q_ite_t, q_ite_f, beq_iff_eq, bne_iff_ne, q_ne, Nat.reduceAdd, Nat.reducePow, Int.reducePow, Nat.reduceMul, Nat.reduceSub, Nat.reduceLeDiff, Nat.reduceLT, Nat.reduceEqDiff, Int.reduceNeg, Int.reduceLT, Int.reduceLE, Int.reduceEq, Int.reduceNe, Int.reduceAdd, Int.reduceSub, Int.reduceMul, Int.reduceToNat, Int.reduceBEq, Int.reduceBNe, df101, TG, encG, capF, hB', r0, r1, r2, r3, r4, r5, r6, i0, i1, i2, i3, i4, i5, i6, i7, m4, m20, m25, m28, m32, m38, put, fillP, hr]
          exact hS.2 (.inr hr)
      case inr.inr.inr.inr.inr.inl =>
        simp only [Int.reduceEq, or_self, or_true, true_or, or_false, false_or, if_true, if_false] at hS
        cases hr : rightB ⟨6, q1, q2, 0, 0, q6, 0, q3, q5, w1, q4⟩ with
        | true =>
          have hn : (⟨6, q1, q2, 0, 0, q6, 0, q3, q5, w1, q4⟩ : Cap).num = w1 := by simp [Cap.num]
          simp (config := { maxSteps := 10000000 }) only [run_drx, run_xd, run_xq, run_xg, run_xb, EV1, EV2, EV3, EV4, EV5, EV6, addT, istep, lenR_sl, lenR_ns, lenR_es, pickR, putD, bin1R, un1R, slcR, bnd, capsOf, fillP, S_plain, V_plain, V.cells, S_known, V_known, C.v, blk, setL, setH, eqS, eq1, cmpS, cmp1, isNil, popTo, killT, setT, leT, V.below, C.below, S_below, R.below, V.val, C.val, S_val, R.val, R.takes, vals, shows, List.any_cons, List.any_nil, unnamed, V.kill, V.names, C.names, S_names, R.names, List.set, List.replicate, ↓q_cond_t, ↓q_cond_f, if_true, if_false, reduceCtorEq, rvals, rvC, result, C_known, V.noL, C.noL, S_noL, R.noL, Option.map, true_and, and_true, ge_iff_le, gt_iff_lt, implies_true, q_ite_t, q_ite_f, beq_iff_eq, bne_iff_ne, q_ne, Nat.reduceAdd, Nat.reducePow, Int.reducePow, Nat.reduceMul, Nat.reduceSub, Nat.reduceLeDiff, Nat.reduceLT, Nat.reduceEqDiff, Int.reduceNeg, Int.reduceLT, Int.reduceLE, Int.reduceEq, Int.reduceNe, Int.reduceAdd, Int.reduceSub, Int.reduceMul, Int.reduceToNat, Int.reduceBEq, Int.reduceBNe, df101, TG, encG, capF, hB', r0, r1, r2, r3, r4, r5, r6, i0, i1, i2, i3, i4, i5, i6, i7, m4, m20, m25, m28, m32, m38, put, fillP, hr, hn]
          exact ⟨fun n => hS.2 (.inl n), fun n => hS.1 ⟨n, hr⟩⟩
        | false =>
          simp (config := { maxSteps := 10000000 }) only [run_drx, run_xd, run_xq, run_xg, run_xb, EV1, EV2, EV3, EV4, EV5, EV6, addT, istep, lenR_sl, lenR_ns, lenR_es, pickR, putD, bin1R, un1R, slcR, bnd, capsOf, fillP, S_plain, V_plain, V.cells, S_known, V_known, C.v, blk, setL, setH, eqS, eq1, cmpS, cmp1, isNil, popTo, killT, setT, leT, V.below, C.below, S_below, R.below, V.val, C.val, S_val, R.val, R.takes, vals, shows, List.any_cons, List.any_nil, unnamed, V.kill, V.names, C.names, S_names, R.names, List.set, List.replicate, ↓q_cond_t, ↓q_cond_f, if_true, if_false, reduceCtorEq, rvals, rvC, result, C_known, V.noL, C.noL, S_noL, R.noL, Option.map, true_and, and_true, ge_iff_le, gt_iff_lt, implies_true, q_ite_t, q_ite_f, beq_iff_eq, bne_iff_ne, q_ne, Nat.reduceAdd, Nat.reducePow, Int.reducePow, Nat.reduceMul, Nat.reduceSub, Nat.reduceLeDiff, Nat.reduceLT, Nat.reduceEqDiff, Int.reduceNeg, Int.reduceLT, Int.reduceLE, Int.reduceEq, Int.reduceNe, Int.reduceAdd, Int.reduceSub, Int.reduceMul, Int.reduceToNat, Int.reduceBEq, Int.reduceBNe, df101, TG, encG, capF, hB', r0, r1, r2, r3, r4, r5, r6, i0, i1, i2, i3, i4, i5, i6, i7, m4, m20, m25, m28, m32, m38, put, fillP, hr]
          exact hS.2 (.inr hr)
      case inr.inr.inr.inr.inr.inr.inl =>
        simp only [Int.reduceEq, or_self, or_true, true_or, or_false, false_or, if_true, if_false] at hS
        cases hr : rightB ⟨8, q1, q2, 0, 0, q6, 0, q3, q5, w1, q4⟩ with
        | true =>
          have hn : (⟨8, q1, q2, 0, 0, q6, 0, q3, q5, w1, q4⟩ : Cap).num = w1 := by simp [Cap.num]
          simp (config := { maxSteps := 10000000 }) only [run_drx, run_xd, run_xq, run_xg, run_xb, EV1, EV2, EV3, EV4, EV5, EV6, addT, istep, lenR_sl, lenR_ns, lenR_es, pickR, putD, bin1R, un1R, slcR, bnd, capsOf, fillP, S_plain, V_plain, V.cells, S_known, V_known, C.v, blk, setL, setH, eqS, eq1, cmpS, cmp1, isNil, popTo, killT, setT, leT, V.below, C.below, S_below, R.below, V.val, C.val, S_val, R.val, R.takes, vals, shows, List.any_cons, List.any_nil, unnamed, V.kill, V.names, C.names, S_names, R.names, List.set, List.replicate, ↓q_cond_t, ↓q_cond_f, if_true, if_false, reduceCtorEq, rvals, rvC, result, C_known, V.noL, C.noL, S_noL, R.noL, Option.map, true_and, and_true, ge_iff_le, gt_iff_lt, implies_true, q_ite_t, q_ite_f, beq_iff_eq, bne_iff_ne, q_ne, Nat.reduceAdd, Nat.reducePow, Int.reducePow, Nat.reduceMul, Nat.reduceSub, Nat.reduceLeDiff, Nat.reduceLT, Nat.reduceEqDiff, Int.reduceNeg, Int.reduceLT, Int.reduceLE, Int.reduceEq, Int.reduceNe, Int.reduceAdd, Int.reduceSub, Int.reduceMul, Int.reduceToNat, Int.reduceBEq, Int.reduceBNe, df101, TG, encG, capF, hB', r0, r1, r2, r3, r4, r5, r6, i0, i1, i2, i3, i4, i5, i6, i7, m4, m20, m25, m28, m32, m38, put, fillP, hr, hn]
          exact ⟨fun n => hS.2 (.inl n), fun n => hS.1 ⟨n, hr⟩⟩
        | false =>
          simp (config := { maxSteps := 10000000 }) only [run_drx, run_xd, run_xq, run_xg, run_xb, EV1, EV2, EV3, EV4, EV5, EV6, addT, istep, lenR_sl, lenR_ns, lenR_es, pickR, putD, bin1R, un1R, slcR, bnd, capsOf, fillP, S_plain, V_plain, V.cells, S_known, V_known, C.v, blk, setL, setH, eqS, eq1, cmpS, cmp1, isNil, popTo, killT, setT, leT, V.below, C.below, S_below, R.below, V.val, C.val, S_val, R.val, R.takes, vals, shows, List.any_cons, List.any_nil, unnamed, V.kill, V.names, C.names, S_names, R.names, List.set, List.replicate, ↓q_cond_t, ↓q_cond_f, if_true, if_false, reduceCtorEq, rvals, rvC, result, C_known, V.noL, C.noL, S_noL, R.noL, Option.map, true_and, and_true, ge_iff_le, gt_iff_lt, implies_true, q_ite_t, q_ite_f, beq_iff_eq, bne_iff_ne, q_ne, Nat.reduceAdd, Nat.reducePow, Int.reducePow, Nat.reduceMul, Nat.reduceSub, Nat.reduceLeDiff, Nat.reduceLT, Nat.reduceEqDiff, Int.reduceNeg, Int.reduceLT, Int.reduceLE, Int.reduceEq, Int.reduceNe, Int.reduceAdd, Int.reduceSub, Int.reduceMul, Int.reduceToNat, Int.reduceBEq, Int.reduceBNe, df101, TG, encG, capF, hB', r0, r1, r2, r3, r4, r5, r6, i0, i1, i2, i3, i4, i5, i6, i7, m4, m20, m25, m28, m32, m38, put, fillP, hr]
          exact hS.2 (.inr hr)
      case inr.inr.inr.inr.inr.inr.inr =>
        simp only [k2, k4, k5, k6, k8, or_self, if_false] at hS
        have hz : ¬ w1 = 0 → rightB ⟨q0, q1, q2, w1, 0, q6, 0, q3, q5, 0, q4⟩ = false := fun n => Bool.eq_false_iff.2 fun x => n (mark_zero x k1 k10)
        cases hr : rightB ⟨q0, q1, q2, 0, 0, q6, 0, q3, q5, 0, q4⟩ with
        | true =>
          have hn : (⟨q0, q1, q2, 0, 0, q6, 0, q3, q5, 0, q4⟩ : Cap).num = 0 := by simp [Cap.num]
          simp (config := { maxSteps := 10000000 }) only [run_drx, run_xd, run_xq, run_xg, run_xb, EV1, EV2, EV3, EV4, EV5, EV6, addT, istep, lenR_sl, lenR_ns, lenR_es, pickR, putD, bin1R, un1R, slcR, bnd, capsOf, fillP, S_plain, V_plain, V.cells, S_known, V_known, C.v, blk, setL, setH, eqS, eq1, cmpS, cmp1, isNil, popTo, killT, setT, leT, V.below, C.below, S_below, R.below, V.val, C.val, S_val, R.val, R.takes, vals, shows, List.any_cons, List.any_nil, unnamed, V.kill, V.names, C.names, S_names, R.names, List.set, List.replicate, ↓q_cond_t, ↓q_cond_f, if_true, if_false, reduceCtorEq, rvals, rvC, result, C_known, V.noL, C.noL, S_noL, R.noL, Option.map, true_and, and_true, ge_iff_le, gt_iff_lt, implies_true, q_ite_t, q_ite_f, beq_iff_eq, bne_iff_ne, q_ne, Nat.reduceAdd, Nat.reducePow, Int.reducePow, Nat.reduceMul, Nat.reduceSub, Nat.reduceLeDiff, Nat.reduceLT, Nat.reduceEqDiff, Int.reduceNeg, Int.reduceLT, Int.reduceLE, Int.reduceEq, Int.reduceNe, Int.reduceAdd, Int.reduceSub, Int.reduceMul, Int.reduceToNat, Int.reduceBEq, Int.reduceBNe, df101, TG, encG, capF, hB', r0, r1, r2, r3, r4, r5, r6, i0, i1, i2, i3, i4, i5, i6, i7, m4, m20, m25, m28, m32, m38, put, fillP, hr, hn, k1, k10, k2, k4, k5, k6, k8]
          refine ⟨fun n => n.elim (fun x => hS.2 (.inl x)) (fun x => hS.2 (.inr (hz (fun e => x e.symm)))), fun n => ?_⟩
          have hw : 0 = w1 := Classical.byContradiction fun x => n (.inr x)
          subst hw
          exact hS.1 ⟨Classical.byContradiction fun x => n (.inl x), hr⟩
        | false =>
          simp (config := { maxSteps := 10000000 }) only [run_drx, run_xd, run_xq, run_xg, run_xb, EV1, EV2, EV3, EV4, EV5, EV6, addT, istep, lenR_sl, lenR_ns, lenR_es, pickR, putD, bin1R, un1R, slcR, bnd, capsOf, fillP, S_plain, V_plain, V.cells, S_known, V_known, C.v, blk, setL, setH, eqS, eq1, cmpS, cmp1, isNil, popTo, killT, setT, leT, V.below, C.below, S_below, R.below, V.val, C.val, S_val, R.val, R.takes, vals, shows, List.any_cons, List.any_nil, unnamed, V.kill, V.names, C.names, S_names, R.names, List.set, List.replicate, ↓q_cond_t, ↓q_cond_f, if_true, if_false, reduceCtorEq, rvals, rvC, result, C_known, V.noL, C.noL, S_noL, R.noL, Option.map, true_and, and_true, ge_iff_le, gt_iff_lt, implies_true, q_ite_t, q_ite_f, beq_iff_eq, bne_iff_ne, q_ne, Nat.reduceAdd, Nat.reducePow, Int.reducePow, Nat.reduceMul, Nat.reduceSub, Nat.reduceLeDiff, Nat.reduceLT, Nat.reduceEqDiff, Int.reduceNeg, Int.reduceLT, Int.reduceLE, Int.reduceEq, Int.reduceNe, Int.reduceAdd, Int.reduceSub, Int.reduceMul, Int.reduceToNat, Int.reduceBEq, Int.reduceBNe, df101, TG, encG, capF, hB', r0, r1, r2, r3, r4, r5, r6, i0, i1, i2, i3, i4, i5, i6, i7, m4, m20, m25, m28, m32, m38, put, fillP, hr, k1, k10, k2, k4, k5, k6, k8]
          by_cases hw : w1 = 0
          · subst hw; exact hS.2 (.inr hr)
          · exact hS.2 (.inr (hz hw))
    · have hB' : 4294967296 ≤ w1 := by omega
      simp only [decB, hB, decide_false, Bool.false_and, Bool.and_false] at hS
      simp (config := { maxSteps := 10000000 }) only [run_drx, run_xd, run_xq, run_xg, run_xb, EV1, EV2, EV3, EV4, EV5, EV6, addT, istep, lenR_sl, lenR_ns, lenR_es, pickR, putD, bin1R, un1R, slcR, bnd, capsOf, fillP, S_plain, V_plain, V.cells, S_known, V_known, C.v, blk, setL, setH, eqS, eq1, cmpS, cmp1, isNil, popTo, killT, setT, leT, V.below, C.below, S_below, R.below, V.val, C.val, S_val, R.val, R.takes, vals, shows, List.any_cons, List.any_nil, unnamed, V.kill, V.names, C.names, S_names, R.names, List.set, List.replicate, ↓q_cond_t, ↓q_cond_f, if_true, if_false, reduceCtorEq, rvals, rvC, result, C_known, V.noL, C.noL, S_noL, R.noL, Option.map, true_and, and_true, ge_iff_le, gt_iff_lt, implies_true, q_ite_t, q_ite_f, beq_iff_eq, bne_iff_ne, q_ne, Nat.reduceAdd, Nat.reducePow, Int.reducePow, Nat.reduceMul, Nat.reduceSub, Nat.reduceLeDiff, Nat.reduceLT, Nat.reduceEqDiff, Int.reduceNeg, Int.reduceLT, Int.reduceLE, Int.reduceEq, Int.reduceNe, Int.reduceAdd, Int.reduceSub, Int.reduceMul, Int.reduceToNat, Int.reduceBEq, Int.reduceBNe, df101, TG, encG, capF, hB', put, fillP]
      exact hS.2 trivial
  · exact hS.elim
end Go.Proofs.Ytdlloccodmdnnaa

/- Caps: Words, Same. -/
namespace Go.Proofs.Ytdlloccodmdnnaa
open Go.D
set_option linter.all false
set_option maxRecDepth 100000
set_option maxHeartbeats 4000000

def capWG (args : List V) (h : List Blk) : Res := capF (fun c => .br (rightB c) (.ok (.s (.i .i64 (szN c))) [] h) (.ok (.s (.i .i64 0)) [] h)) args
def TW : Tab := addT 55 rightG (addT 92 sizesG noT)
theorem TW_snd : TW.Snd Try.prog := addT_snd ok55 right_snd (addT_snd ok92 sizes_snd (noT_snd _))
theorem rsz_eq {c : Cap} (h : rightB c = true) : rszN c = szN c := by
  obtain ⟨t, o, b, d, e, g, i, j, k, l, m⟩ := c
  simp only [rightB] at h
  simp only [rszN, szN]
  rcases kinds t with rfl | rfl | rfl | rfl | rfl | rfl | rfl | rfl | rfl | rfl | rfl | rfl | rfl | rfl | ⟨k0, k1, k2, k3, k4, k5, k6, k7, k8, k9, k10, k11, k12, k13, ho⟩
  case inr.inr.inr.inr.inr.inr.inr.inr.inr.inr.inr.inr.inr.inr => simp only [k0, k1, k2, k3, k4, k5, k6, k7, k8, k9, k10, k11, k12, k13, if_false]
  all_goals simp only [Int.reduceEq, if_true, if_false, ite_t, ite_f, not_or, Classical.not_not, nOk_iff] at h ⊢
  · rw [if_pos h.1.1, shR_u h.1.1]
  · rw [if_pos h.1.1, shR_n h.1.1]
  · rcases zrange.1 h.1.1 with rfl | hb
    · rfl
    · rw [if_pos hb, shR_n hb, if_neg (by omega)]
def TX : Tab := addT 14 rightG (addT 50 sizeG noT)
theorem TX_snd : TX.Snd Try.prog := addT_snd ok14 rright_snd (addT_snd ok50 rsize_snd (noT_snd _))
end Go.Proofs.Ytdlloccodmdnnaa

/- Caps: Same. -/
namespace Go.Proofs.Ytdlloccodmdnnaa
open Go.D
set_option linter.all false
set_option maxRecDepth 100000
set_option maxHeartbeats 4000000

/-- Two caps as arguments. -/
def cap2F (f : Cap → Cap → Res) : List V → Res
  | [x, y] => capF (fun c => capF (fun d => f c d) [y]) [x]
  | _ => .bad
theorem cap2F_spec {f : Cap → Cap → Res} {args : List V} {K : V → List Blk → Prop} (h : (cap2F f args).spec K) : ∃ c d : Cap, args = [.agg c.cl, .agg d.cl] ∧ (f c d).spec K := by
  unfold cap2F at h
  split at h
  · obtain ⟨c, e, h⟩ := capF_spec h
    obtain ⟨d, e', h⟩ := capF_spec h
    simp only [List.cons.injEq, and_true] at e e'
    subst e; subst e'
    exact ⟨c, d, rfl, h⟩
  · exact h.elim

def oneC (c : Cap) : Cap := if c.ty = 12 then ⟨12, c.obj, 0, 0, 0, 0, 0, 0, 0, 0, c.line⟩ else ⟨c.ty, c.obj, 0, 0, 0, 0, 0, 0, 0, 0, 0⟩
def oneG (args : List V) (h : List Blk) : Res := capF (fun c => .ok (.agg (oneC c).cl) [] h) args
def sameB (c d : Cap) : Bool := !(c.ty == 0) && (c.ty == d.ty && (c.obj == d.obj && (!(c.ty == 12) || c.line == d.line)))
def sameG (args : List V) (h : List Blk) : Res := cap2F (fun c d => .ok (.s (.b (sameB c d))) [] h) args
end Go.Proofs.Ytdlloccodmdnnaa

/- Law 06: awake. -/
namespace Go.Proofs.Ytdlloccodmdnnaa
open Go.D
set_option linter.all false
set_option maxRecDepth 100000
set_option maxHeartbeats 4000000

def awake6G : List V → List Blk → Res
  | [], h => .ok (.s (.b true)) [] h
  | _, _ => .bad
end Go.Proofs.Ytdlloccodmdnnaa

/- Law 06: CapsWords. -/
namespace Go.Proofs.Ytdlloccodmdnnaa
open Go.D
set_option linter.all false
set_option maxRecDepth 100000
set_option maxHeartbeats 4000000

def capsWordsG : List V → List Blk → Res
  | [.agg [.i .i64 a, .i .i64 b, .i .i64 c, .i .i64 d, .i .i64 e, .i .i64 g, .i .i64 i, .i .i64 j, .i .i64 k, .i .i64 l, .i .i64 m, .i .i64 a2, .i .i64 b2, .i .i64 c2, .i .i64 d2, .i .i64 e2, .i .i64 g2, .i .i64 i2, .i .i64 j2, .i .i64 k2, .i .i64 l2, .i .i64 m2, .i .u64 w0, .i .u64 w1]], h => .ob (u64 w0 ∧ u64 w1) (.ok (.s (.b true)) [] h)
  | _, _ => .bad
end Go.Proofs.Ytdlloccodmdnnaa

/- Law 06: CapsRead. -/
namespace Go.Proofs.Ytdlloccodmdnnaa
open Go.D
set_option linter.all false
set_option maxRecDepth 100000
set_option maxHeartbeats 4000000

theorem dec_back {w0 w1 : Int} (h0 : u64 w0) (h : decB w0 w1 = true) : rightB (decC w0 w1) = true ∧ (decC w0 w1).w0 = w0 ∧ (decC w0 w1).num = w1 := by
  obtain ⟨w, rfl, hw⟩ := h0.nat
  simp only [decB, Bool.and_eq_true, decide_eq_true_eq] at h
  refine ⟨h.2.2, w0_back.2 h.1, ?_⟩
  simp only [decC, Cap.num]
  split <;> split <;> split <;> split <;> omega

theorem cap_eta (c : Cap) : (⟨c.ty, c.obj, c.bits, c.mark, c.guard, c.gbits, c.badge, c.rights, c.asid, c.vaddr, c.line⟩ : Cap) = c := rfl
def capsReadG : List V → List Blk → Res
  | [.s (.i .u64 w0), .s (.i .u64 w1)], h => .ob (u64 w0 ∧ u64 w1) (.ok (.s (.b true)) [] h)
  | _, _ => .bad
end Go.Proofs.Ytdlloccodmdnnaa

/- Caps: what was written is read. -/
namespace Go.Proofs.Ytdlloccodmdnnaa
open Go.D
set_option linter.all false
set_option maxRecDepth 100000
set_option maxHeartbeats 4000000

theorem Cap.ext' {c d : Cap} (h1 : c.ty = d.ty) (h2 : c.obj = d.obj) (h3 : c.bits = d.bits) (h4 : c.mark = d.mark) (h5 : c.guard = d.guard) (h6 : c.gbits = d.gbits) (h7 : c.badge = d.badge) (h8 : c.rights = d.rights) (h9 : c.asid = d.asid) (ha : c.vaddr = d.vaddr) (hb : c.line = d.line) : c = d := by
  cases c; cases d; simp_all
theorem enc_back {c : Cap} (h : rightB c = true) : u64 c.w0 ∧ u64 c.num ∧ decB c.w0 c.num = true ∧ decC c.w0 c.num = c := by
  obtain ⟨h1, h2, h3, h4, h5, h6, h7, h8, h9, h10, h11, one⟩ := right_bounds h
  have t0 : c.w0 % 16 = c.ty := by simp only [Cap.w0]; omega
  have e : decC c.w0 c.num = c := by
    apply Cap.ext'
    · exact t0
    · simp only [decC, Cap.w0]; omega
    · simp only [decC, Cap.w0]; omega
    · simp only [decC, t0, Cap.num]
      split at one
      · simp [*]
      · split at one
        · rename_i x; rcases x with x | x <;> simp [x, one]
        · split at one
          · rename_i x; rcases x with x | x <;> simp [x, one]
          · rename_i x y z; rw [if_neg (by omega)]; omega
    · simp only [decC, t0, Cap.num]
      split at one
      · rename_i x; rw [if_pos x]; omega
      · rename_i x; rw [if_neg x]
        split at one
        · omega
        · split at one <;> omega
    · simp only [decC, Cap.w0]; omega
    · simp only [decC, t0, Cap.num]
      split at one
      · rename_i x; rw [if_neg (by omega)]; omega
      · split at one
        · rename_i x; rw [if_pos x]; omega
        · rename_i x; rw [if_neg x]; split at one <;> omega
    · simp only [decC, Cap.w0]; omega
    · simp only [decC, Cap.w0]; omega
    · simp only [decC, t0, Cap.num]
      split at one
      · rw [if_neg (by omega)]; omega
      · split at one
        · rw [if_neg (by omega)]; omega
        · split at one
          · rename_i x; rw [if_pos x]; omega
          · rename_i x; rw [if_neg x]; omega
    · simp only [decC, Cap.w0]; omega
  refine ⟨by simp only [u64, Cap.w0]; omega, by simp only [u64, Cap.num]; omega, ?_, e⟩
  simp only [decB, e, h, Bool.and_true, Bool.and_eq_true, decide_eq_true_eq]
  constructor
  · simp only [Cap.w0]; omega
  · simp only [Cap.num]; omega
end Go.Proofs.Ytdlloccodmdnnaa

