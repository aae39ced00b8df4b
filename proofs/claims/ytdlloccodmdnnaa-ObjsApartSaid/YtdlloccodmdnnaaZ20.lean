/- Package objs: notes, the code's. -/
import Derived.Test.YtdlloccodmdnnaaZ10
import Derived.Test.YtdlloccodmdnnaaZ19
/- Package objs: notes, in code and document. -/
namespace Go.Proofs.Ytdlloccodmdnnaa
open Go.D
set_option linter.all false
set_option maxRecDepth 100000
set_option maxHeartbeats 8000000

structure Si where
  s : Int
  h : Int
  t : Int
  g : Int
  b : Int
def Si.cl (q : Si) : List S := [.i .i64 q.s, .i .i64 q.h, .i .i64 q.t, .i .i64 q.g, .i .i64 q.b]
def siF (f : Si → Res) : List V → Res
  | [.agg [.i .i64 a, .i .i64 b, .i .i64 c, .i .i64 d, .i .i64 e]] => f ⟨a, b, c, d, e⟩
  | _ => .bad
theorem siF_spec {f : Si → Res} {args : List V} {K : V → List Blk → Prop} (h : (siF f args).spec K) : ∃ q : Si, args = [.agg q.cl] ∧ (f q).spec K := by
  unfold siF at h
  split at h
  · exact ⟨_, rfl, h⟩
  · exact h.elim
theorem si_eta (q : Si) : (⟨q.s, q.h, q.t, q.g, q.b⟩ : Si) = q := rfl
/-- Right, as the document asks it, and as the code does. -/
def Si.R (q : Si) : Bool := cond (q.s == 0) (q.h == 0 && (q.t == 0 && q.g == 0)) (cond (q.s == 1) (in3 q.h 1 65535 && (in3 q.t 1 65535 && q.g == 0)) (cond (q.s == 2) (q.h == 0 && q.t == 0) false))
def Si.B (q : Si) : Bool := cond (in3 q.b 0 65535) (cond (in3 q.g 0 268435455) q.R false) false
def Si.C (q : Si) : Bool := cond (q.s == 0) (q.h == 0 && (q.t == 0 && !decide (0 < q.g))) (cond (q.s == 1) (decide (0 < q.h) && (decide (0 < q.t) && !decide (0 < q.g))) (cond (q.s == 2) (q.h == 0 && q.t == 0) false))
def Si.v (q : Si) : Int := Qu.w ⟨q.s, q.h, q.t⟩
def Si.w (q : Si) : Int := q.g + 268435456 * q.b
theorem Si.B_u {q : Si} (h : q.B = true) : (0 ≤ q.s ∧ q.s ≤ 2 ∧ 0 ≤ q.h ∧ q.h ≤ 65535 ∧ 0 ≤ q.t ∧ q.t ≤ 65535) ∧ 0 ≤ q.g ∧ q.g < 268435456 ∧ 0 ≤ q.b ∧ q.b ≤ 65535 := by
  unfold Si.B Si.R at h
  cases h1 : in3 q.b 0 65535 <;> rw [h1] at h <;> simp only [cond_true, cond_false, Bool.false_eq_true] at h
  cases h2 : in3 q.g 0 268435455 <;> rw [h2] at h <;> simp only [cond_true, cond_false, Bool.false_eq_true] at h
  rw [in3_iff] at h1 h2
  cases h3 : (q.s == 0) <;> rw [h3] at h <;> simp only [cond_true, cond_false] at h
  · cases h4 : (q.s == 1) <;> rw [h4] at h <;> simp only [cond_true, cond_false] at h
    · cases h5 : (q.s == 2) <;> rw [h5] at h <;> simp only [cond_true, cond_false, Bool.false_eq_true] at h
      simp only [Bool.and_eq_true, beq_iff_eq] at h h5; omega
    · simp only [Bool.and_eq_true, beq_iff_eq, in3_iff] at h h4; omega
  · simp only [Bool.and_eq_true, beq_iff_eq] at h h3; omega
theorem Si.w_u {q : Si} (h : q.B = true) : u64 q.v ∧ u64 q.w := by
  have := Si.B_u h
  simp only [u64, Si.v, Si.w, Qu.w]; omega
theorem Si.CB {q : Si} (h1 : 0 ≤ q.g ∧ q.g < 268435456 ∧ 0 ≤ q.b ∧ q.b ≤ 65535) (h2 : q.h ≤ 65535 ∧ q.t ≤ 65535) : q.C = q.B := by
  obtain ⟨s, a, b, c, d⟩ := q
  simp only [Si.C, Si.B, Si.R] at *
  rw [in3_iff.2 (show 0 ≤ d ∧ d ≤ 65535 by omega), in3_iff.2 (show 0 ≤ c ∧ c ≤ 268435455 by omega)]
  simp only [cond_true]
  have hg : (!decide (0 < c)) = (c == 0) := by rw [Bool.eq_iff_iff]; simp only [Bool.not_eq_true', decide_eq_false_iff_not, beq_iff_eq]; omega
  have ha : decide (0 < a) = in3 a 1 65535 := by rw [Bool.eq_iff_iff, in3_iff]; simp only [decide_eq_true_eq]; omega
  have hb : decide (0 < b) = in3 b 1 65535 := by rw [Bool.eq_iff_iff, in3_iff]; simp only [decide_eq_true_eq]; omega
  rw [hg, ha, hb]
def siCG (args : List V) (h : List Blk) : Res := siF (fun q => .ok (.s (.b q.C)) [] h) args
def siBG (args : List V) (h : List Blk) : Res := siF (fun q => .ok (.s (.b q.B)) [] h) args
theorem siC_snd : Snd Try.prog 73 (FSpec.of siCG) := snd_run (noT_snd _) mixed Try.func73 dc73 200 fun args h K hc hS => by
  obtain ⟨q, rfl, hR⟩ := siF_spec hS
  clear hS
  simp only [spec_ok, Si.C] at hR
  simp only [Si.cl]
  cases h0 : (q.s == 0)
  · cases h1 : (q.s == 1)
    · cases h2 : (q.s == 2)
      · rw [h0, h1, h2] at hR
        simp (config := { maxSteps := 10000000 }) only [run_drx, run_xd, run_xq, run_xg, run_xb, EV1, EV2, EV3, EV4, EV5, EV6, addT, istep, lenR_sl, lenR_ns, lenR_es, pickR, putD, bin1R, un1R, slcR, bnd, capsOf, fillP, S_plain, V_plain, V.cells, S_known, V_known, C.v, blk, setL, setH, eqS, eq1, cmpS, cmp1, isNil, popTo, killT, setT, leT, V.below, C.below, S_below, R.below, V.val, C.val, S_val, R.val, R.takes, vals, shows, List.any_cons, List.any_nil, unnamed, V.kill, V.names, C.names, S_names, R.names, List.set, List.replicate, ↓q_cond_t, ↓q_cond_f, if_true, if_false, reduceCtorEq, rvals, rvC, result, C_known, V.noL, C.noL, S_noL, R.noL, Option.map, true_and, and_true, ge_iff_le, gt_iff_lt, implies_true, q_ite_t, q_ite_f, beq_iff_eq, bne_iff_ne, q_ne, Nat.reduceAdd, Nat.reducePow, Int.reducePow, Nat.reduceMul, Nat.reduceSub, Nat.reduceLeDiff, Nat.reduceLT, Nat.reduceEqDiff, Int.reduceNeg, Int.reduceLT, Int.reduceLE, Int.reduceEq, Int.reduceNe, Int.reduceAdd, Int.reduceSub, Int.reduceMul, Int.reduceToNat, Int.reduceBEq, Int.reduceBNe, df73, h0, h1, h2, Bool.and_assoc, sub, put, fillP, List.take_succ_cons, List.take_zero, List.drop_zero]
        exact hR
      · rw [h0, h1, h2] at hR
        simp (config := { maxSteps := 10000000 }) only [run_drx, run_xd, run_xq, run_xg, run_xb, EV1, EV2, EV3, EV4, EV5, EV6, addT, istep, lenR_sl, lenR_ns, lenR_es, pickR, putD, bin1R, un1R, slcR, bnd, capsOf, fillP, S_plain, V_plain, V.cells, S_known, V_known, C.v, blk, setL, setH, eqS, eq1, cmpS, cmp1, isNil, popTo, killT, setT, leT, V.below, C.below, S_below, R.below, V.val, C.val, S_val, R.val, R.takes, vals, shows, List.any_cons, List.any_nil, unnamed, V.kill, V.names, C.names, S_names, R.names, List.set, List.replicate, ↓q_cond_t, ↓q_cond_f, if_true, if_false, reduceCtorEq, rvals, rvC, result, C_known, V.noL, C.noL, S_noL, R.noL, Option.map, true_and, and_true, ge_iff_le, gt_iff_lt, implies_true, q_ite_t, q_ite_f, beq_iff_eq, bne_iff_ne, q_ne, Nat.reduceAdd, Nat.reducePow, Int.reducePow, Nat.reduceMul, Nat.reduceSub, Nat.reduceLeDiff, Nat.reduceLT, Nat.reduceEqDiff, Int.reduceNeg, Int.reduceLT, Int.reduceLE, Int.reduceEq, Int.reduceNe, Int.reduceAdd, Int.reduceSub, Int.reduceMul, Int.reduceToNat, Int.reduceBEq, Int.reduceBNe, df73, h0, h1, h2, Bool.and_assoc, sub, put, fillP, List.take_succ_cons, List.take_zero, List.drop_zero]
        exact hR
    · rw [h0, h1] at hR
      simp (config := { maxSteps := 10000000 }) only [run_drx, run_xd, run_xq, run_xg, run_xb, EV1, EV2, EV3, EV4, EV5, EV6, addT, istep, lenR_sl, lenR_ns, lenR_es, pickR, putD, bin1R, un1R, slcR, bnd, capsOf, fillP, S_plain, V_plain, V.cells, S_known, V_known, C.v, blk, setL, setH, eqS, eq1, cmpS, cmp1, isNil, popTo, killT, setT, leT, V.below, C.below, S_below, R.below, V.val, C.val, S_val, R.val, R.takes, vals, shows, List.any_cons, List.any_nil, unnamed, V.kill, V.names, C.names, S_names, R.names, List.set, List.replicate, ↓q_cond_t, ↓q_cond_f, if_true, if_false, reduceCtorEq, rvals, rvC, result, C_known, V.noL, C.noL, S_noL, R.noL, Option.map, true_and, and_true, ge_iff_le, gt_iff_lt, implies_true, q_ite_t, q_ite_f, beq_iff_eq, bne_iff_ne, q_ne, Nat.reduceAdd, Nat.reducePow, Int.reducePow, Nat.reduceMul, Nat.reduceSub, Nat.reduceLeDiff, Nat.reduceLT, Nat.reduceEqDiff, Int.reduceNeg, Int.reduceLT, Int.reduceLE, Int.reduceEq, Int.reduceNe, Int.reduceAdd, Int.reduceSub, Int.reduceMul, Int.reduceToNat, Int.reduceBEq, Int.reduceBNe, df73, h0, h1, Bool.and_assoc, sub, put, fillP, List.take_succ_cons, List.take_zero, List.drop_zero]
      exact hR
  · rw [h0] at hR
    simp (config := { maxSteps := 10000000 }) only [run_drx, run_xd, run_xq, run_xg, run_xb, EV1, EV2, EV3, EV4, EV5, EV6, addT, istep, lenR_sl, lenR_ns, lenR_es, pickR, putD, bin1R, un1R, slcR, bnd, capsOf, fillP, S_plain, V_plain, V.cells, S_known, V_known, C.v, blk, setL, setH, eqS, eq1, cmpS, cmp1, isNil, popTo, killT, setT, leT, V.below, C.below, S_below, R.below, V.val, C.val, S_val, R.val, R.takes, vals, shows, List.any_cons, List.any_nil, unnamed, V.kill, V.names, C.names, S_names, R.names, List.set, List.replicate, ↓q_cond_t, ↓q_cond_f, if_true, if_false, reduceCtorEq, rvals, rvC, result, C_known, V.noL, C.noL, S_noL, R.noL, Option.map, true_and, and_true, ge_iff_le, gt_iff_lt, implies_true, q_ite_t, q_ite_f, beq_iff_eq, bne_iff_ne, q_ne, Nat.reduceAdd, Nat.reducePow, Int.reducePow, Nat.reduceMul, Nat.reduceSub, Nat.reduceLeDiff, Nat.reduceLT, Nat.reduceEqDiff, Int.reduceNeg, Int.reduceLT, Int.reduceLE, Int.reduceEq, Int.reduceNe, Int.reduceAdd, Int.reduceSub, Int.reduceMul, Int.reduceToNat, Int.reduceBEq, Int.reduceBNe, df73, h0, Bool.and_assoc, sub, put, fillP, List.take_succ_cons, List.take_zero, List.drop_zero]
    exact hR
theorem siB_snd : Snd Try.prog 107 (FSpec.of siBG) := snd_run To3_snd mixed Try.func107 dc107 200 fun args h K hc hS => by
  obtain ⟨q, rfl, hR⟩ := siF_spec hS
  clear hS
  simp only [spec_ok, Si.B, Si.R] at hR
  simp only [Si.cl]
  cases hb : in3 q.b 0 65535
  · rw [hb] at hR
    simp (config := { maxSteps := 10000000 }) only [run_drx, run_xd, run_xq, run_xg, run_xb, EV1, EV2, EV3, EV4, EV5, EV6, addT, istep, lenR_sl, lenR_ns, lenR_es, pickR, putD, bin1R, un1R, slcR, bnd, capsOf, fillP, S_plain, V_plain, V.cells, S_known, V_known, C.v, blk, setL, setH, eqS, eq1, cmpS, cmp1, isNil, popTo, killT, setT, leT, V.below, C.below, S_below, R.below, V.val, C.val, S_val, R.val, R.takes, vals, shows, List.any_cons, List.any_nil, unnamed, V.kill, V.names, C.names, S_names, R.names, List.set, List.replicate, ↓q_cond_t, ↓q_cond_f, if_true, if_false, reduceCtorEq, rvals, rvC, result, C_known, V.noL, C.noL, S_noL, R.noL, Option.map, true_and, and_true, ge_iff_le, gt_iff_lt, implies_true, q_ite_t, q_ite_f, beq_iff_eq, bne_iff_ne, q_ne, Nat.reduceAdd, Nat.reducePow, Int.reducePow, Nat.reduceMul, Nat.reduceSub, Nat.reduceLeDiff, Nat.reduceLT, Nat.reduceEqDiff, Int.reduceNeg, Int.reduceLT, Int.reduceLE, Int.reduceEq, Int.reduceNe, Int.reduceAdd, Int.reduceSub, Int.reduceMul, Int.reduceToNat, Int.reduceBEq, Int.reduceBNe, df107, To3, rinG, hb, sub, put, fillP, List.take_succ_cons, List.take_zero, List.drop_zero]
    exact hR
  cases hg : in3 q.g 0 268435455
  · rw [hb, hg] at hR
    simp (config := { maxSteps := 10000000 }) only [run_drx, run_xd, run_xq, run_xg, run_xb, EV1, EV2, EV3, EV4, EV5, EV6, addT, istep, lenR_sl, lenR_ns, lenR_es, pickR, putD, bin1R, un1R, slcR, bnd, capsOf, fillP, S_plain, V_plain, V.cells, S_known, V_known, C.v, blk, setL, setH, eqS, eq1, cmpS, cmp1, isNil, popTo, killT, setT, leT, V.below, C.below, S_below, R.below, V.val, C.val, S_val, R.val, R.takes, vals, shows, List.any_cons, List.any_nil, unnamed, V.kill, V.names, C.names, S_names, R.names, List.set, List.replicate, ↓q_cond_t, ↓q_cond_f, if_true, if_false, reduceCtorEq, rvals, rvC, result, C_known, V.noL, C.noL, S_noL, R.noL, Option.map, true_and, and_true, ge_iff_le, gt_iff_lt, implies_true, q_ite_t, q_ite_f, beq_iff_eq, bne_iff_ne, q_ne, Nat.reduceAdd, Nat.reducePow, Int.reducePow, Nat.reduceMul, Nat.reduceSub, Nat.reduceLeDiff, Nat.reduceLT, Nat.reduceEqDiff, Int.reduceNeg, Int.reduceLT, Int.reduceLE, Int.reduceEq, Int.reduceNe, Int.reduceAdd, Int.reduceSub, Int.reduceMul, Int.reduceToNat, Int.reduceBEq, Int.reduceBNe, df107, To3, rinG, hb, hg, sub, put, fillP, List.take_succ_cons, List.take_zero, List.drop_zero]
    exact hR
  cases h0 : (q.s == 0)
  · cases h1 : (q.s == 1)
    · cases h2 : (q.s == 2)
      · rw [hb, hg, h0, h1, h2] at hR
        simp (config := { maxSteps := 10000000 }) only [run_drx, run_xd, run_xq, run_xg, run_xb, EV1, EV2, EV3, EV4, EV5, EV6, addT, istep, lenR_sl, lenR_ns, lenR_es, pickR, putD, bin1R, un1R, slcR, bnd, capsOf, fillP, S_plain, V_plain, V.cells, S_known, V_known, C.v, blk, setL, setH, eqS, eq1, cmpS, cmp1, isNil, popTo, killT, setT, leT, V.below, C.below, S_below, R.below, V.val, C.val, S_val, R.val, R.takes, vals, shows, List.any_cons, List.any_nil, unnamed, V.kill, V.names, C.names, S_names, R.names, List.set, List.replicate, ↓q_cond_t, ↓q_cond_f, if_true, if_false, reduceCtorEq, rvals, rvC, result, C_known, V.noL, C.noL, S_noL, R.noL, Option.map, true_and, and_true, ge_iff_le, gt_iff_lt, implies_true, q_ite_t, q_ite_f, beq_iff_eq, bne_iff_ne, q_ne, Nat.reduceAdd, Nat.reducePow, Int.reducePow, Nat.reduceMul, Nat.reduceSub, Nat.reduceLeDiff, Nat.reduceLT, Nat.reduceEqDiff, Int.reduceNeg, Int.reduceLT, Int.reduceLE, Int.reduceEq, Int.reduceNe, Int.reduceAdd, Int.reduceSub, Int.reduceMul, Int.reduceToNat, Int.reduceBEq, Int.reduceBNe, df107, To3, rinG, hb, hg, h0, h1, h2, Bool.and_assoc, sub, put, fillP, List.take_succ_cons, List.take_zero, List.drop_zero]
        exact hR
      · rw [hb, hg, h0, h1, h2] at hR
        simp (config := { maxSteps := 10000000 }) only [run_drx, run_xd, run_xq, run_xg, run_xb, EV1, EV2, EV3, EV4, EV5, EV6, addT, istep, lenR_sl, lenR_ns, lenR_es, pickR, putD, bin1R, un1R, slcR, bnd, capsOf, fillP, S_plain, V_plain, V.cells, S_known, V_known, C.v, blk, setL, setH, eqS, eq1, cmpS, cmp1, isNil, popTo, killT, setT, leT, V.below, C.below, S_below, R.below, V.val, C.val, S_val, R.val, R.takes, vals, shows, List.any_cons, List.any_nil, unnamed, V.kill, V.names, C.names, S_names, R.names, List.set, List.replicate, ↓q_cond_t, ↓q_cond_f, if_true, if_false, reduceCtorEq, rvals, rvC, result, C_known, V.noL, C.noL, S_noL, R.noL, Option.map, true_and, and_true, ge_iff_le, gt_iff_lt, implies_true, q_ite_t, q_ite_f, beq_iff_eq, bne_iff_ne, q_ne, Nat.reduceAdd, Nat.reducePow, Int.reducePow, Nat.reduceMul, Nat.reduceSub, Nat.reduceLeDiff, Nat.reduceLT, Nat.reduceEqDiff, Int.reduceNeg, Int.reduceLT, Int.reduceLE, Int.reduceEq, Int.reduceNe, Int.reduceAdd, Int.reduceSub, Int.reduceMul, Int.reduceToNat, Int.reduceBEq, Int.reduceBNe, df107, To3, rinG, hb, hg, h0, h1, h2, Bool.and_assoc, sub, put, fillP, List.take_succ_cons, List.take_zero, List.drop_zero]
        exact hR
    · rw [hb, hg, h0, h1] at hR
      simp (config := { maxSteps := 10000000 }) only [run_drx, run_xd, run_xq, run_xg, run_xb, EV1, EV2, EV3, EV4, EV5, EV6, addT, istep, lenR_sl, lenR_ns, lenR_es, pickR, putD, bin1R, un1R, slcR, bnd, capsOf, fillP, S_plain, V_plain, V.cells, S_known, V_known, C.v, blk, setL, setH, eqS, eq1, cmpS, cmp1, isNil, popTo, killT, setT, leT, V.below, C.below, S_below, R.below, V.val, C.val, S_val, R.val, R.takes, vals, shows, List.any_cons, List.any_nil, unnamed, V.kill, V.names, C.names, S_names, R.names, List.set, List.replicate, ↓q_cond_t, ↓q_cond_f, if_true, if_false, reduceCtorEq, rvals, rvC, result, C_known, V.noL, C.noL, S_noL, R.noL, Option.map, true_and, and_true, ge_iff_le, gt_iff_lt, implies_true, q_ite_t, q_ite_f, beq_iff_eq, bne_iff_ne, q_ne, Nat.reduceAdd, Nat.reducePow, Int.reducePow, Nat.reduceMul, Nat.reduceSub, Nat.reduceLeDiff, Nat.reduceLT, Nat.reduceEqDiff, Int.reduceNeg, Int.reduceLT, Int.reduceLE, Int.reduceEq, Int.reduceNe, Int.reduceAdd, Int.reduceSub, Int.reduceMul, Int.reduceToNat, Int.reduceBEq, Int.reduceBNe, df107, To3, rinG, hb, hg, h0, h1, Bool.and_assoc, sub, put, fillP, List.take_succ_cons, List.take_zero, List.drop_zero]
      exact hR
  · rw [hb, hg, h0] at hR
    simp (config := { maxSteps := 10000000 }) only [run_drx, run_xd, run_xq, run_xg, run_xb, EV1, EV2, EV3, EV4, EV5, EV6, addT, istep, lenR_sl, lenR_ns, lenR_es, pickR, putD, bin1R, un1R, slcR, bnd, capsOf, fillP, S_plain, V_plain, V.cells, S_known, V_known, C.v, blk, setL, setH, eqS, eq1, cmpS, cmp1, isNil, popTo, killT, setT, leT, V.below, C.below, S_below, R.below, V.val, C.val, S_val, R.val, R.takes, vals, shows, List.any_cons, List.any_nil, unnamed, V.kill, V.names, C.names, S_names, R.names, List.set, List.replicate, ↓q_cond_t, ↓q_cond_f, if_true, if_false, reduceCtorEq, rvals, rvC, result, C_known, V.noL, C.noL, S_noL, R.noL, Option.map, true_and, and_true, ge_iff_le, gt_iff_lt, implies_true, q_ite_t, q_ite_f, beq_iff_eq, bne_iff_ne, q_ne, Nat.reduceAdd, Nat.reducePow, Int.reducePow, Nat.reduceMul, Nat.reduceSub, Nat.reduceLeDiff, Nat.reduceLT, Nat.reduceEqDiff, Int.reduceNeg, Int.reduceLT, Int.reduceLE, Int.reduceEq, Int.reduceNe, Int.reduceAdd, Int.reduceSub, Int.reduceMul, Int.reduceToNat, Int.reduceBEq, Int.reduceBNe, df107, To3, rinG, hb, hg, h0, Bool.and_assoc, sub, put, fillP, List.take_succ_cons, List.take_zero, List.drop_zero]
    exact hR

/-! ### Signal, SetSignal -/
def M.ssE (m : M) (a : Int) (q : Si) : Int := if otB m a 8 then (if q.B then 0 else 90) else 20
def M.ssX (m : M) (a : Int) (q : Si) : M := if otB m a 8 && q.B then (((m.put a.toNat q.v).tick 1).put (a + 1).toNat q.w).tick 1 else m
def Si.up (q : Si) : Prop := sml q.s ∧ sml q.h ∧ sml q.t ∧ sml q.g ∧ sml q.b
def ssetM (b : Nat) (m : M) (st : M → List Blk) : List V → Res
  | [.s (.i .i64 a), x] => siF (fun q => .ob q.up (.ok (.s (.i .i64 (m.ssE a q))) [] (st (m.ssX a q)))) [x]
  | _ => .bad
noncomputable def ssetG := memF ssetM
noncomputable def ToS : Tab := addT 69 otG (addT 102 otG (addT 70 readG (addT 100 readG (addT 78 writeG (addT 91 writeG (addT 71 ounpG (addT 80 opackG (addT 73 siCG (addT 107 siBG (addT 106 queuedG (noT)))))))))))
theorem ToS_snd : ToS.Snd Try.prog := addT_snd ok69 ot_snd (addT_snd ok102 rot_snd (addT_snd ok70 mread_snd (addT_snd ok100 rread_snd (addT_snd ok78 mwrite_snd (addT_snd ok91 rwrite_snd (addT_snd ok71 ounp_snd (addT_snd ok80 opack_snd (addT_snd ok73 siC_snd (addT_snd ok107 siB_snd (addT_snd ok106 queued_snd ((noT_snd _))))))))))))
theorem rsset_snd : Snd Try.prog 65 (FSpec.of ssetG) := snd_run ToS_snd mixed Try.func65 dc65 300 fun args h K hc hS => by
  obtain ⟨a, b, m, rest, rfl, H, hS1⟩ := memF_spec hS
  clear hS
  have hS := hS1
  clear hS1
  unfold ssetM at hS
  split at hS
  · rename_i x y
    obtain ⟨q, e, hup, hR⟩ := siF_spec hS
    clear hS
    simp only [List.cons.injEq, and_true] at e
    subst e
    simp only [spec_ok, M.ssE, M.ssX] at hR
    have n4 : (0 : Int) < 8 ∧ (8 : Int) ≤ 64 := by decide
    simp only [Si.cl]
    cases ht : otB m x 8 with
    | false =>
      simp only [ht, Bool.false_and, Bool.false_eq_true, if_false, setM_self H] at hR
      simp (config := { maxSteps := 10000000 }) only [run_drx, run_xd, run_xq, run_xg, run_xb, EV1, EV2, EV3, EV4, EV5, EV6, addT, istep, lenR_sl, lenR_ns, lenR_es, pickR, putD, bin1R, un1R, slcR, bnd, capsOf, fillP, S_plain, V_plain, V.cells, S_known, V_known, C.v, blk, setL, setH, eqS, eq1, cmpS, cmp1, isNil, popTo, killT, setT, leT, V.below, C.below, S_below, R.below, V.val, C.val, S_val, R.val, R.takes, vals, shows, List.any_cons, List.any_nil, unnamed, V.kill, V.names, C.names, S_names, R.names, List.set, List.replicate, ↓q_cond_t, ↓q_cond_f, if_true, if_false, reduceCtorEq, rvals, rvC, result, C_known, V.noL, C.noL, S_noL, R.noL, Option.map, true_and, and_true, ge_iff_le, gt_iff_lt, implies_true, q_ite_t, q_ite_f, beq_iff_eq, bne_iff_ne, q_ne, Nat.reduceAdd, Nat.reducePow, Int.reducePow, Nat.reduceMul, Nat.reduceSub, Nat.reduceLeDiff, Nat.reduceLT, Nat.reduceEqDiff, Int.reduceNeg, Int.reduceLT, Int.reduceLE, Int.reduceEq, Int.reduceNe, Int.reduceAdd, Int.reduceSub, Int.reduceMul, Int.reduceToNat, Int.reduceBEq, Int.reduceBNe, df65, ToS, otG, memF_eq H, memF_set H, otM, n4, setM_self H, ht]
      exact hR
    | true =>
      simp only [ht, Bool.true_and, if_true] at hR
      have hb := otB_iff.1 ht
      have hl := m.l
      have h0 : m.has x 1 = true := M.has_of (by omega)
      have h1 : m.has (x + 1) 1 = true := M.has_of (by omega)
      have x1 : IntKind.i64.wrap (x + 1) = x + 1 := wrap64 (by omega) (by omega)
      cases hB : q.B with
      | false =>
        simp only [hB, Bool.false_eq_true, if_false, setM_self H] at hR
        simp (config := { maxSteps := 10000000 }) only [run_drx, run_xd, run_xq, run_xg, run_xb, EV1, EV2, EV3, EV4, EV5, EV6, addT, istep, lenR_sl, lenR_ns, lenR_es, pickR, putD, bin1R, un1R, slcR, bnd, capsOf, fillP, S_plain, V_plain, V.cells, S_known, V_known, C.v, blk, setL, setH, eqS, eq1, cmpS, cmp1, isNil, popTo, killT, setT, leT, V.below, C.below, S_below, R.below, V.val, C.val, S_val, R.val, R.takes, vals, shows, List.any_cons, List.any_nil, unnamed, V.kill, V.names, C.names, S_names, R.names, List.set, List.replicate, ↓q_cond_t, ↓q_cond_f, if_true, if_false, reduceCtorEq, rvals, rvC, result, C_known, V.noL, C.noL, S_noL, R.noL, Option.map, true_and, and_true, ge_iff_le, gt_iff_lt, implies_true, q_ite_t, q_ite_f, beq_iff_eq, bne_iff_ne, q_ne, Nat.reduceAdd, Nat.reducePow, Int.reducePow, Nat.reduceMul, Nat.reduceSub, Nat.reduceLeDiff, Nat.reduceLT, Nat.reduceEqDiff, Int.reduceNeg, Int.reduceLT, Int.reduceLE, Int.reduceEq, Int.reduceNe, Int.reduceAdd, Int.reduceSub, Int.reduceMul, Int.reduceToNat, Int.reduceBEq, Int.reduceBNe, df65, ToS, otG, memF_eq H, memF_set H, otM, n4, setM_self H, ht, siBG, siF, si_eta, hB, sub, List.take_succ_cons, List.take_zero, List.drop_zero]
        exact hR
      | true =>
        simp only [hB, if_true] at hR
        obtain ⟨hu, hv⟩ := Si.w_u hB
        simp only [Si.v] at hu hR
        have o1 := Si.B_u hB
        have o2 : q.s ≤ 3 := by omega
        have m28 : min 28 IntKind.u64.bits = 28 := rfl
        have y1 : IntKind.u64.wrap q.g = q.g := wrapu (by omega) (by omega)
        have y2 : IntKind.u64.wrap q.b = q.b := wrapu (by omega) (by omega)
        have y3 : IntKind.u64.wrap (q.b * 268435456) = q.b * 268435456 := wrapu (by omega) (by omega)
        have y4 : IntKind.u64.wrap (q.g + q.b * 268435456) = q.w := by rw [wrapu (by omega) (by omega), Si.w]; omega
        simp (config := { maxSteps := 10000000 }) only [run_drx, run_xd, run_xq, run_xg, run_xb, EV1, EV2, EV3, EV4, EV5, EV6, addT, istep, lenR_sl, lenR_ns, lenR_es, pickR, putD, bin1R, un1R, slcR, bnd, capsOf, fillP, S_plain, V_plain, V.cells, S_known, V_known, C.v, blk, setL, setH, eqS, eq1, cmpS, cmp1, isNil, popTo, killT, setT, leT, V.below, C.below, S_below, R.below, V.val, C.val, S_val, R.val, R.takes, vals, shows, List.any_cons, List.any_nil, unnamed, V.kill, V.names, C.names, S_names, R.names, List.set, List.replicate, ↓q_cond_t, ↓q_cond_f, if_true, if_false, reduceCtorEq, rvals, rvC, result, C_known, V.noL, C.noL, S_noL, R.noL, Option.map, true_and, and_true, ge_iff_le, gt_iff_lt, implies_true, q_ite_t, q_ite_f, beq_iff_eq, bne_iff_ne, q_ne, Nat.reduceAdd, Nat.reducePow, Int.reducePow, Nat.reduceMul, Nat.reduceSub, Nat.reduceLeDiff, Nat.reduceLT, Nat.reduceEqDiff, Int.reduceNeg, Int.reduceLT, Int.reduceLE, Int.reduceEq, Int.reduceNe, Int.reduceAdd, Int.reduceSub, Int.reduceMul, Int.reduceToNat, Int.reduceBEq, Int.reduceBNe, df65, ToS, otG, memF_eq H, memF_set H, otM, n4, setM_self H, ht, siBG, siF, si_eta, hB, queuedG, o1, o2, writeG, writeM, h0, h1, x1, m28, y1, y2, y3, y4, M.tick_has, M.put_has, hu, hv, sub, List.take_succ_cons, List.take_zero, List.drop_zero]
        exact hR
  · exact hS.elim
end Go.Proofs.Ytdlloccodmdnnaa

/- Package objs: notes, the code's. -/
namespace Go.Proofs.Ytdlloccodmdnnaa
open Go.D
set_option linter.all false
set_option maxRecDepth 100000
set_option maxHeartbeats 8000000

theorem ic2 {a b : Int} : ic [a, b] = [.i .i64 a, .i .i64 b] := rfl
/-! ### SetSignal -/
theorem pk2_B {s a : Int} (h : 0 ≤ s ∧ 0 ≤ a) (u : sml s ∧ sml a) : opB [⟨28, s⟩, ⟨16, a⟩] = decide (s < 268435456 ∧ a < 65536) := by
  rw [opB_of (by intro f hf; simp only [List.mem_cons, List.not_mem_nil, or_false] at hf; rcases hf with rfl | rfl <;> simp only <;> omega)]
  simp only [List.map_cons, List.map_nil, fd_eq ⟨h.1, u.1⟩, fd_eq ⟨h.2, u.2⟩]
  rw [Bool.eq_iff_iff]
  simp only [packB_cons, packB_nil, Int.reduceAdd, Int.reduceSub, Int.reduceLE, Int.reduceToNat, Nat.reducePow, and_true, true_and, decide_eq_true_eq]
  omega
theorem pk2_V {s a : Int} (h : 0 ≤ s ∧ 0 ≤ a) (u : sml s ∧ sml a) (hB : opB [⟨28, s⟩, ⟨16, a⟩] = true) : opV [⟨28, s⟩, ⟨16, a⟩] = s + 268435456 * a := by
  rw [opV, if_pos hB]
  simp only [List.map_cons, List.map_nil, fd_eq ⟨h.1, u.1⟩, fd_eq ⟨h.2, u.2⟩]
  rw [pk2_B h u] at hB
  simp only [decide_eq_true_eq] at hB
  simp only [packV, Int.reduceAdd, Int.reduceToNat, Nat.reducePow]
  omega
theorem pk3_neg {s a b : Int} (h : ¬ (0 ≤ s ∧ 0 ≤ a ∧ 0 ≤ b)) : opB [⟨2, s⟩, ⟨16, a⟩, ⟨16, b⟩] = false := by
  by_cases n1 : s < 0
  · exact opB_neg (f := ⟨2, s⟩) (by simp) n1
  · by_cases n2 : a < 0
    · exact opB_neg (f := ⟨16, a⟩) (by simp) n2
    · exact opB_neg (f := ⟨16, b⟩) (by simp) (show b < 0 by omega)
theorem pk2_neg {s a : Int} (h : ¬ (0 ≤ s ∧ 0 ≤ a)) : opB [⟨28, s⟩, ⟨16, a⟩] = false := by
  by_cases n1 : s < 0
  · exact opB_neg (f := ⟨28, s⟩) (by simp) n1
  · exact opB_neg (f := ⟨16, a⟩) (by simp) (show a < 0 by omega)
theorem si_pk {q : Si} (u : q.up) : (opB [⟨2, q.s⟩, ⟨16, q.h⟩, ⟨16, q.t⟩] && (opB [⟨28, q.g⟩, ⟨16, q.b⟩] && q.C)) = q.B ∧ (q.B = true → opV [⟨2, q.s⟩, ⟨16, q.h⟩, ⟨16, q.t⟩] = q.v ∧ opV [⟨28, q.g⟩, ⟨16, q.b⟩] = q.w) := by
  have u1 : sml q.s ∧ sml q.h ∧ sml q.t := ⟨u.1, u.2.1, u.2.2.1⟩
  have u2 : sml q.g ∧ sml q.b := ⟨u.2.2.2.1, u.2.2.2.2⟩
  have key : q.B = true → opB [⟨2, q.s⟩, ⟨16, q.h⟩, ⟨16, q.t⟩] = true ∧ opB [⟨28, q.g⟩, ⟨16, q.b⟩] = true := fun hB => by
    have := Si.B_u hB
    rw [pk3_B (by omega) u1, pk2_B (by omega) u2]
    simp only [decide_eq_true_eq]; omega
  refine ⟨?_, fun hB => ?_⟩
  · rw [Bool.eq_iff_iff, Bool.and_eq_true, Bool.and_eq_true]
    constructor
    · rintro ⟨h1, h2, h3⟩
      by_cases hn : 0 ≤ q.s ∧ 0 ≤ q.h ∧ 0 ≤ q.t
      · by_cases hm : 0 ≤ q.g ∧ 0 ≤ q.b
        · rw [pk3_B hn u1] at h1
          rw [pk2_B hm u2] at h2
          simp only [decide_eq_true_eq] at h1 h2
          rwa [Si.CB (by omega) (by omega)] at h3
        · rw [pk2_neg hm] at h2; cases h2
      · rw [pk3_neg hn] at h1; cases h1
    · intro hB
      have hu := Si.B_u hB
      exact ⟨(key hB).1, (key hB).2, by rw [Si.CB (by omega) (by omega)]; exact hB⟩
  · have hu := Si.B_u hB
    rw [pk3_V (by omega) u1 (key hB).1, pk2_V (by omega) u2 (key hB).2]; exact ⟨rfl, rfl⟩
theorem sset_snd : Snd Try.prog 43 (FSpec.of ssetG) := snd_run ToS_snd mixed Try.func43 dc43 300 fun args h K hc hS => by
  obtain ⟨a, b, m, rest, rfl, H, hS1⟩ := memF_spec hS
  clear hS
  have hS := hS1
  clear hS1
  unfold ssetM at hS
  split at hS
  · rename_i x y
    obtain ⟨q, e, hup, hR⟩ := siF_spec hS
    clear hS
    simp only [List.cons.injEq, and_true] at e
    subst e
    simp only [spec_ok, M.ssE, M.ssX] at hR
    have n4 : (0 : Int) < 8 ∧ (8 : Int) ≤ 64 := by decide
    simp only [Si.cl]
    cases ht : otB m x 8 with
    | false =>
      simp only [ht, Bool.false_and, Bool.false_eq_true, if_false, setM_self H] at hR
      simp (config := { maxSteps := 10000000 }) only [run_drx, run_xd, run_xq, run_xg, run_xb, EV1, EV2, EV3, EV4, EV5, EV6, addT, istep, lenR_sl, lenR_ns, lenR_es, pickR, putD, bin1R, un1R, slcR, bnd, capsOf, fillP, S_plain, V_plain, V.cells, S_known, V_known, C.v, blk, setL, setH, eqS, eq1, cmpS, cmp1, isNil, popTo, killT, setT, leT, V.below, C.below, S_below, R.below, V.val, C.val, S_val, R.val, R.takes, vals, shows, List.any_cons, List.any_nil, unnamed, V.kill, V.names, C.names, S_names, R.names, List.set, List.replicate, ↓q_cond_t, ↓q_cond_f, if_true, if_false, reduceCtorEq, rvals, rvC, result, C_known, V.noL, C.noL, S_noL, R.noL, Option.map, true_and, and_true, ge_iff_le, gt_iff_lt, implies_true, q_ite_t, q_ite_f, beq_iff_eq, bne_iff_ne, q_ne, Nat.reduceAdd, Nat.reducePow, Int.reducePow, Nat.reduceMul, Nat.reduceSub, Nat.reduceLeDiff, Nat.reduceLT, Nat.reduceEqDiff, Int.reduceNeg, Int.reduceLT, Int.reduceLE, Int.reduceEq, Int.reduceNe, Int.reduceAdd, Int.reduceSub, Int.reduceMul, Int.reduceToNat, Int.reduceBEq, Int.reduceBNe, df43, ToS, otG, memF_eq H, memF_set H, otM, n4, setM_self H, ht]
      exact hR
    | true =>
      simp only [ht, Bool.true_and, if_true] at hR
      have hb := otB_iff.1 ht
      have hl := m.l
      have h0 : m.has x 1 = true := M.has_of (by omega)
      have h1 : m.has (x + 1) 1 = true := M.has_of (by omega)
      have x1 : IntKind.i64.wrap (x + 1) = x + 1 := wrap64 (by omega) (by omega)
      have hcm : ∀ m', clean (setM h a b m').length (setM h a b m') = true := fun m' => by rw [setM_len]; exact setM_clean H hc H.ltb
      have hA : ∀ (hh : List Blk) (r : Blk) (room : Nat), arrOf Fi.c (hh ++ [r, ⟨.rw, [.i .i64 2, .i .i64 q.s, .i .i64 16, .i .i64 q.h, .i .i64 16, .i .i64 q.t], room⟩]) (.sl (.g (hh.length + 1)) 0 3 3) = some [⟨2, q.s⟩, ⟨16, q.h⟩, ⟨16, q.t⟩] := fun hh r room => fi_lent (L := [⟨2, q.s⟩, ⟨16, q.h⟩, ⟨16, q.t⟩]) rfl rfl (by simp only [List.length_cons]; omega)
      have hA2 : ∀ (hh : List Blk) (r r2 : Blk) (room : Nat), arrOf Fi.c (hh ++ [r, r2, ⟨.rw, [.i .i64 28, .i .i64 q.g, .i .i64 16, .i .i64 q.b], room⟩]) (.sl (.g (hh.length + 2)) 0 2 2) = some [⟨28, q.g⟩, ⟨16, q.b⟩] := fun hh r r2 room => fi_lent (L := [⟨28, q.g⟩, ⟨16, q.b⟩]) rfl rfl (by simp only [List.length_cons]; omega)
      obtain ⟨p1, p2⟩ := si_pk hup
      obtain ⟨ob, hob⟩ : ∃ ob, opB [⟨2, q.s⟩, ⟨16, q.h⟩, ⟨16, q.t⟩] = ob := ⟨_, rfl⟩
      obtain ⟨ov, hov⟩ : ∃ ov, opV [⟨2, q.s⟩, ⟨16, q.h⟩, ⟨16, q.t⟩] = ov := ⟨_, rfl⟩
      obtain ⟨ob2, hob2⟩ : ∃ ob, opB [⟨28, q.g⟩, ⟨16, q.b⟩] = ob := ⟨_, rfl⟩
      obtain ⟨ov2, hov2⟩ : ∃ ov, opV [⟨28, q.g⟩, ⟨16, q.b⟩] = ov := ⟨_, rfl⟩
      rw [hob, hob2] at p1
      rw [hov, hov2] at p2
      cases hB : q.B with
      | false =>
        simp only [hB, Bool.false_eq_true, if_false, setM_self H] at hR
        rw [hB] at p1
        cases ob with
        | false =>
          simp (config := { maxSteps := 10000000 }) only [run_drx, run_xd, run_xq, run_xg, run_xb, EV1, EV2, EV3, EV4, EV5, EV6, addT, istep, lenR_sl, lenR_ns, lenR_es, pickR, putD, bin1R, un1R, slcR, bnd, capsOf, fillP, S_plain, V_plain, V.cells, S_known, V_known, C.v, blk, setL, setH, eqS, eq1, cmpS, cmp1, isNil, popTo, killT, setT, leT, V.below, C.below, S_below, R.below, V.val, C.val, S_val, R.val, R.takes, vals, shows, List.any_cons, List.any_nil, unnamed, V.kill, V.names, C.names, S_names, R.names, List.set, List.replicate, ↓q_cond_t, ↓q_cond_f, if_true, if_false, reduceCtorEq, rvals, rvC, result, C_known, V.noL, C.noL, S_noL, R.noL, Option.map, true_and, and_true, ge_iff_le, gt_iff_lt, implies_true, q_ite_t, q_ite_f, beq_iff_eq, bne_iff_ne, q_ne, Nat.reduceAdd, Nat.reducePow, Int.reducePow, Nat.reduceMul, Nat.reduceSub, Nat.reduceLeDiff, Nat.reduceLT, Nat.reduceEqDiff, Int.reduceNeg, Int.reduceLT, Int.reduceLE, Int.reduceEq, Int.reduceNe, Int.reduceAdd, Int.reduceSub, Int.reduceMul, Int.reduceToNat, Int.reduceBEq, Int.reduceBNe, df43, ToS, otG, memF_eq H, memF_set H, otM, n4, setM_self H, ht, opackG, R.lend, R.unlend, S_ren, C.ren, V.ren, app_taken, app_dropn, app_take0, app_drop0, List.take_succ_cons, List.take_zero, List.drop_succ_cons, List.drop_zero, Nat.not_lt_zero, Nat.lt_irrefl, Nat.add_sub_cancel_left, Nat.not_lt, Nat.le_add_right, nnn, nl0, app_len, hA, hA2, hob, hov, hob2, hov2, hc, Blk.ren, List.map_cons, List.map_nil, put, fillP, sub, List.take_succ_cons, List.take_zero, List.drop_zero]
          exact hR
        | true =>
          cases ob2 with
          | false =>
            simp (config := { maxSteps := 10000000 }) only [run_drx, run_xd, run_xq, run_xg, run_xb, EV1, EV2, EV3, EV4, EV5, EV6, addT, istep, lenR_sl, lenR_ns, lenR_es, pickR, putD, bin1R, un1R, slcR, bnd, capsOf, fillP, S_plain, V_plain, V.cells, S_known, V_known, C.v, blk, setL, setH, eqS, eq1, cmpS, cmp1, isNil, popTo, killT, setT, leT, V.below, C.below, S_below, R.below, V.val, C.val, S_val, R.val, R.takes, vals, shows, List.any_cons, List.any_nil, unnamed, V.kill, V.names, C.names, S_names, R.names, List.set, List.replicate, ↓q_cond_t, ↓q_cond_f, if_true, if_false, reduceCtorEq, rvals, rvC, result, C_known, V.noL, C.noL, S_noL, R.noL, Option.map, true_and, and_true, ge_iff_le, gt_iff_lt, implies_true, q_ite_t, q_ite_f, beq_iff_eq, bne_iff_ne, q_ne, Nat.reduceAdd, Nat.reducePow, Int.reducePow, Nat.reduceMul, Nat.reduceSub, Nat.reduceLeDiff, Nat.reduceLT, Nat.reduceEqDiff, Int.reduceNeg, Int.reduceLT, Int.reduceLE, Int.reduceEq, Int.reduceNe, Int.reduceAdd, Int.reduceSub, Int.reduceMul, Int.reduceToNat, Int.reduceBEq, Int.reduceBNe, df43, ToS, otG, memF_eq H, memF_set H, otM, n4, setM_self H, ht, opackG, R.lend, R.unlend, S_ren, C.ren, V.ren, app_taken, app_dropn, app_take0, app_drop0, List.take_succ_cons, List.take_zero, List.drop_succ_cons, List.drop_zero, Nat.not_lt_zero, Nat.lt_irrefl, Nat.add_sub_cancel_left, Nat.not_lt, Nat.le_add_right, nnn, nl0, app_len, hA, hA2, hob, hov, hob2, hov2, hc, Blk.ren, List.map_cons, List.map_nil, put, fillP, sub, List.take_succ_cons, List.take_zero, List.drop_zero]
            exact hR
          | true =>
            simp only [Bool.true_and] at p1
            simp (config := { maxSteps := 10000000 }) only [run_drx, run_xd, run_xq, run_xg, run_xb, EV1, EV2, EV3, EV4, EV5, EV6, addT, istep, lenR_sl, lenR_ns, lenR_es, pickR, putD, bin1R, un1R, slcR, bnd, capsOf, fillP, S_plain, V_plain, V.cells, S_known, V_known, C.v, blk, setL, setH, eqS, eq1, cmpS, cmp1, isNil, popTo, killT, setT, leT, V.below, C.below, S_below, R.below, V.val, C.val, S_val, R.val, R.takes, vals, shows, List.any_cons, List.any_nil, unnamed, V.kill, V.names, C.names, S_names, R.names, List.set, List.replicate, ↓q_cond_t, ↓q_cond_f, if_true, if_false, reduceCtorEq, rvals, rvC, result, C_known, V.noL, C.noL, S_noL, R.noL, Option.map, true_and, and_true, ge_iff_le, gt_iff_lt, implies_true, q_ite_t, q_ite_f, beq_iff_eq, bne_iff_ne, q_ne, Nat.reduceAdd, Nat.reducePow, Int.reducePow, Nat.reduceMul, Nat.reduceSub, Nat.reduceLeDiff, Nat.reduceLT, Nat.reduceEqDiff, Int.reduceNeg, Int.reduceLT, Int.reduceLE, Int.reduceEq, Int.reduceNe, Int.reduceAdd, Int.reduceSub, Int.reduceMul, Int.reduceToNat, Int.reduceBEq, Int.reduceBNe, df43, ToS, otG, memF_eq H, memF_set H, otM, n4, setM_self H, ht, opackG, R.lend, R.unlend, S_ren, C.ren, V.ren, app_taken, app_dropn, app_take0, app_drop0, List.take_succ_cons, List.take_zero, List.drop_succ_cons, List.drop_zero, Nat.not_lt_zero, Nat.lt_irrefl, Nat.add_sub_cancel_left, Nat.not_lt, Nat.le_add_right, nnn, nl0, app_len, hA, hA2, hob, hov, hob2, hov2, hc, siCG, siF, si_eta, p1, Blk.ren, List.map_cons, List.map_nil, put, fillP, sub, List.take_succ_cons, List.take_zero, List.drop_zero]
            exact hR
      | true =>
        simp only [hB, if_true] at hR
        rw [hB, Bool.and_eq_true, Bool.and_eq_true] at p1
        obtain ⟨p3, p4, p5⟩ := p1
        obtain ⟨hu, hv⟩ := Si.w_u hB
        obtain ⟨p2, p6⟩ := p2 hB
        simp (config := { maxSteps := 10000000 }) only [run_drx, run_xd, run_xq, run_xg, run_xb, EV1, EV2, EV3, EV4, EV5, EV6, addT, istep, lenR_sl, lenR_ns, lenR_es, pickR, putD, bin1R, un1R, slcR, bnd, capsOf, fillP, S_plain, V_plain, V.cells, S_known, V_known, C.v, blk, setL, setH, eqS, eq1, cmpS, cmp1, isNil, popTo, killT, setT, leT, V.below, C.below, S_below, R.below, V.val, C.val, S_val, R.val, R.takes, vals, shows, List.any_cons, List.any_nil, unnamed, V.kill, V.names, C.names, S_names, R.names, List.set, List.replicate, ↓q_cond_t, ↓q_cond_f, if_true, if_false, reduceCtorEq, rvals, rvC, result, C_known, V.noL, C.noL, S_noL, R.noL, Option.map, true_and, and_true, ge_iff_le, gt_iff_lt, implies_true, q_ite_t, q_ite_f, beq_iff_eq, bne_iff_ne, q_ne, Nat.reduceAdd, Nat.reducePow, Int.reducePow, Nat.reduceMul, Nat.reduceSub, Nat.reduceLeDiff, Nat.reduceLT, Nat.reduceEqDiff, Int.reduceNeg, Int.reduceLT, Int.reduceLE, Int.reduceEq, Int.reduceNe, Int.reduceAdd, Int.reduceSub, Int.reduceMul, Int.reduceToNat, Int.reduceBEq, Int.reduceBNe, df43, ToS, otG, memF_eq H, memF_set H, otM, n4, setM_self H, ht, opackG, R.lend, R.unlend, S_ren, C.ren, V.ren, app_taken, app_dropn, app_take0, app_drop0, List.take_succ_cons, List.take_zero, List.drop_succ_cons, List.drop_zero, Nat.not_lt_zero, Nat.lt_irrefl, Nat.add_sub_cancel_left, Nat.not_lt, Nat.le_add_right, nnn, nl0, app_len, hA, hA2, hob, hov, hob2, hov2, p2, p3, p4, p6, hc, siCG, siF, si_eta, p5, writeG, writeM, h0, h1, x1, M.tick_has, M.put_has, hu, hv, Blk.ren, List.map_cons, List.map_nil, put, fillP, sub, List.take_succ_cons, List.take_zero, List.drop_zero]
        exact hR
  · exact hS.elim
end Go.Proofs.Ytdlloccodmdnnaa

