/- Package objs: notes, in code and document. -/
import Derived.Test.YtdlloccodmdnnaaZ10
import Derived.Test.YtdlloccodmdnnaaZ20
/- Package objs: notes, in code and document. -/
namespace Go.Proofs.Ytdlloccodmdnnaa
open Go.D
set_option linter.all false
set_option maxRecDepth 100000
set_option maxHeartbeats 8000000

structure Si where
  s : Int
  h : Int
  t : Int
  g : Int
  b : Int
def Si.cl (q : Si) : List S := [.i .i64 q.s, .i .i64 q.h, .i .i64 q.t, .i .i64 q.g, .i .i64 q.b]
def siZ : Si := ⟨0, 0, 0, 0, 0⟩
def siF (f : Si → Res) : List V → Res
  | [.agg [.i .i64 a, .i .i64 b, .i .i64 c, .i .i64 d, .i .i64 e]] => f ⟨a, b, c, d, e⟩
  | _ => .bad
theorem siF_spec {f : Si → Res} {args : List V} {K : V → List Blk → Prop} (h : (siF f args).spec K) : ∃ q : Si, args = [.agg q.cl] ∧ (f q).spec K := by
  unfold siF at h
  split at h
  · exact ⟨_, rfl, h⟩
  · exact h.elim
theorem si_eta (q : Si) : (⟨q.s, q.h, q.t, q.g, q.b⟩ : Si) = q := rfl
/-- Right, as the document asks it, and as the code does. -/
def Si.R (q : Si) : Bool := cond (q.s == 0) (q.h == 0 && (q.t == 0 && q.g == 0)) (cond (q.s == 1) (in3 q.h 1 65535 && (in3 q.t 1 65535 && q.g == 0)) (cond (q.s == 2) (q.h == 0 && q.t == 0) false))
def Si.B (q : Si) : Bool := cond (in3 q.b 0 65535) (cond (in3 q.g 0 268435455) q.R false) false
def Si.C (q : Si) : Bool := cond (q.s == 0) (q.h == 0 && (q.t == 0 && !decide (0 < q.g))) (cond (q.s == 1) (decide (0 < q.h) && (decide (0 < q.t) && !decide (0 < q.g))) (cond (q.s == 2) (q.h == 0 && q.t == 0) false))
def Si.v (q : Si) : Int := Qu.w ⟨q.s, q.h, q.t⟩
def Si.w (q : Si) : Int := q.g + 268435456 * q.b
def siOf (v w : Int) : Si := ⟨v % 4, v / 4 % 65536, v / 262144 % 65536, w % 268435456, w / 268435456 % 65536⟩
def siOk (v w : Int) : Bool := decide (v < 17179869184) && (decide (w < 17592186044416) && (siOf v w).B)
theorem Si.B_u {q : Si} (h : q.B = true) : (0 ≤ q.s ∧ q.s ≤ 2 ∧ 0 ≤ q.h ∧ q.h ≤ 65535 ∧ 0 ≤ q.t ∧ q.t ≤ 65535) ∧ 0 ≤ q.g ∧ q.g < 268435456 ∧ 0 ≤ q.b ∧ q.b ≤ 65535 := by
  unfold Si.B Si.R at h
  cases h1 : in3 q.b 0 65535 <;> rw [h1] at h <;> simp only [cond_true, cond_false, Bool.false_eq_true] at h
  cases h2 : in3 q.g 0 268435455 <;> rw [h2] at h <;> simp only [cond_true, cond_false, Bool.false_eq_true] at h
  rw [in3_iff] at h1 h2
  cases h3 : (q.s == 0) <;> rw [h3] at h <;> simp only [cond_true, cond_false] at h
  · cases h4 : (q.s == 1) <;> rw [h4] at h <;> simp only [cond_true, cond_false] at h
    · cases h5 : (q.s == 2) <;> rw [h5] at h <;> simp only [cond_true, cond_false, Bool.false_eq_true] at h
      simp only [Bool.and_eq_true, beq_iff_eq] at h h5; omega
    · simp only [Bool.and_eq_true, beq_iff_eq, in3_iff] at h h4; omega
  · simp only [Bool.and_eq_true, beq_iff_eq] at h h3; omega
theorem Si.w_u {q : Si} (h : q.B = true) : u64 q.v ∧ u64 q.w := by
  have := Si.B_u h
  simp only [u64, Si.v, Si.w, Qu.w]; omega
theorem Si.CB {q : Si} (h1 : 0 ≤ q.g ∧ q.g < 268435456 ∧ 0 ≤ q.b ∧ q.b ≤ 65535) (h2 : q.h ≤ 65535 ∧ q.t ≤ 65535) : q.C = q.B := by
  obtain ⟨s, a, b, c, d⟩ := q
  simp only [Si.C, Si.B, Si.R] at *
  rw [in3_iff.2 (show 0 ≤ d ∧ d ≤ 65535 by omega), in3_iff.2 (show 0 ≤ c ∧ c ≤ 268435455 by omega)]
  simp only [cond_true]
  have hg : (!decide (0 < c)) = (c == 0) := by rw [Bool.eq_iff_iff]; simp only [Bool.not_eq_true', decide_eq_false_iff_not, beq_iff_eq]; omega
  have ha : decide (0 < a) = in3 a 1 65535 := by rw [Bool.eq_iff_iff, in3_iff]; simp only [decide_eq_true_eq]; omega
  have hb : decide (0 < b) = in3 b 1 65535 := by rw [Bool.eq_iff_iff, in3_iff]; simp only [decide_eq_true_eq]; omega
  rw [hg, ha, hb]
theorem siOf_C {v w : Int} (hv : u64 v) (hw : u64 w) : (siOf v w).C = (siOf v w).B := by
  simp only [u64] at hv hw
  refine Si.CB ?_ ?_
  · show 0 ≤ w % 268435456 ∧ w % 268435456 < 268435456 ∧ 0 ≤ w / 268435456 % 65536 ∧ w / 268435456 % 65536 ≤ 65535
    omega
  · show v / 4 % 65536 ≤ 65535 ∧ v / 262144 % 65536 ≤ 65535
    omega
def siCG (args : List V) (h : List Blk) : Res := siF (fun q => .ok (.s (.b q.C)) [] h) args
def siBG (args : List V) (h : List Blk) : Res := siF (fun q => .ok (.s (.b q.B)) [] h) args
theorem siC_snd : Snd Try.prog 73 (FSpec.of siCG) := snd_run (noT_snd _) mixed Try.func73 dc73 200 fun args h K hc hS => by
  obtain ⟨q, rfl, hR⟩ := siF_spec hS
  clear hS
  simp only [spec_ok, Si.C] at hR
  simp only [Si.cl]
  cases h0 : (q.s == 0)
  · cases h1 : (q.s == 1)
    · cases h2 : (q.s == 2)
      · rw [h0, h1, h2] at hR
        simp (config := { maxSteps := 10000000 }) only [run_drx, run_xd, run_xq, run_xg, run_xb, EV1, EV2, EV3, EV4, EV5, EV6, addT, istep, lenR_sl, lenR_ns, lenR_es, pickR, putD, bin1R, un1R, slcR, bnd, capsOf, fillP, S_plain, V_plain, V.cells, S_known, V_known, C.v, blk, setL, setH, eqS, eq1, cmpS, cmp1, isNil, popTo, killT, setT, leT, V.below, C.below, S_below, R.below, V.val, C.val, S_val, R.val, R.takes, vals, shows, List.any_cons, List.any_nil, unnamed, V.kill, V.names, C.names, S_names, R.names, List.set, List.replicate, ↓q_cond_t, ↓q_cond_f, if_true, if_false, reduceCtorEq, rvals, rvC, result, C_known, V.noL, C.noL, S_noL, R.noL, Option.map, true_and, and_true, ge_iff_le, gt_iff_lt, implies_true, q_ite_t, q_ite_f, beq_iff_eq, bne_iff_ne, q_ne, Nat.reduceAdd, Nat.reducePow, Int.reducePow, Nat.reduceMul, Nat.reduceSub, Nat.reduceLeDiff, Nat.reduceLT, Nat.reduceEqDiff, Int.reduceNeg, Int.reduceLT, Int.reduceLE, Int.reduceEq, Int.reduceNe, Int.reduceAdd, Int.reduceSub, Int.reduceMul, Int.reduceToNat, Int.reduceBEq, Int.reduceBNe, df73, h0, h1, h2, Bool.and_assoc, sub, put, fillP, List.take_succ_cons, List.take_zero, List.drop_zero]
        exact hR
      · rw [h0, h1, h2] at hR
        simp (config := { maxSteps := 10000000 }) only [run_drx, run_xd, run_xq, run_xg, run_xb, EV1, EV2, EV3, EV4, EV5, EV6, addT, istep, lenR_sl, lenR_ns, lenR_es, pickR, putD, bin1R, un1R, slcR, bnd, capsOf, fillP, S_plain, V_plain, V.cells, S_known, V_known, C.v, blk, setL, setH, eqS, eq1, cmpS, cmp1, isNil, popTo, killT, setT, leT, V.below, C.below, S_below, R.below, V.val, C.val, S_val, R.val, R.takes, vals, shows, List.any_cons, List.any_nil, unnamed, V.kill, V.names, C.names, S_names, R.names, List.set, List.replicate, ↓q_cond_t, ↓q_cond_f, if_true, if_false, reduceCtorEq, rvals, rvC, result, C_known, V.noL, C.noL, S_noL, R.noL, Option.map, true_and, and_true, ge_iff_le, gt_iff_lt, implies_true, q_ite_t, q_ite_f, beq_iff_eq, bne_iff_ne, q_ne, Nat.reduceAdd, Nat.reducePow, Int.reducePow, Nat.reduceMul, Nat.reduceSub, Nat.reduceLeDiff, Nat.reduceLT, Nat.reduceEqDiff, Int.reduceNeg, Int.reduceLT, Int.reduceLE, Int.reduceEq, Int.reduceNe, Int.reduceAdd, Int.reduceSub, Int.reduceMul, Int.reduceToNat, Int.reduceBEq, Int.reduceBNe, df73, h0, h1, h2, Bool.and_assoc, sub, put, fillP, List.take_succ_cons, List.take_zero, List.drop_zero]
        exact hR
    · rw [h0, h1] at hR
      simp (config := { maxSteps := 10000000 }) only [run_drx, run_xd, run_xq, run_xg, run_xb, EV1, EV2, EV3, EV4, EV5, EV6, addT, istep, lenR_sl, lenR_ns, lenR_es, pickR, putD, bin1R, un1R, slcR, bnd, capsOf, fillP, S_plain, V_plain, V.cells, S_known, V_known, C.v, blk, setL, setH, eqS, eq1, cmpS, cmp1, isNil, popTo, killT, setT, leT, V.below, C.below, S_below, R.below, V.val, C.val, S_val, R.val, R.takes, vals, shows, List.any_cons, List.any_nil, unnamed, V.kill, V.names, C.names, S_names, R.names, List.set, List.replicate, ↓q_cond_t, ↓q_cond_f, if_true, if_false, reduceCtorEq, rvals, rvC, result, C_known, V.noL, C.noL, S_noL, R.noL, Option.map, true_and, and_true, ge_iff_le, gt_iff_lt, implies_true, q_ite_t, q_ite_f, beq_iff_eq, bne_iff_ne, q_ne, Nat.reduceAdd, Nat.reducePow, Int.reducePow, Nat.reduceMul, Nat.reduceSub, Nat.reduceLeDiff, Nat.reduceLT, Nat.reduceEqDiff, Int.reduceNeg, Int.reduceLT, Int.reduceLE, Int.reduceEq, Int.reduceNe, Int.reduceAdd, Int.reduceSub, Int.reduceMul, Int.reduceToNat, Int.reduceBEq, Int.reduceBNe, df73, h0, h1, Bool.and_assoc, sub, put, fillP, List.take_succ_cons, List.take_zero, List.drop_zero]
      exact hR
  · rw [h0] at hR
    simp (config := { maxSteps := 10000000 }) only [run_drx, run_xd, run_xq, run_xg, run_xb, EV1, EV2, EV3, EV4, EV5, EV6, addT, istep, lenR_sl, lenR_ns, lenR_es, pickR, putD, bin1R, un1R, slcR, bnd, capsOf, fillP, S_plain, V_plain, V.cells, S_known, V_known, C.v, blk, setL, setH, eqS, eq1, cmpS, cmp1, isNil, popTo, killT, setT, leT, V.below, C.below, S_below, R.below, V.val, C.val, S_val, R.val, R.takes, vals, shows, List.any_cons, List.any_nil, unnamed, V.kill, V.names, C.names, S_names, R.names, List.set, List.replicate, ↓q_cond_t, ↓q_cond_f, if_true, if_false, reduceCtorEq, rvals, rvC, result, C_known, V.noL, C.noL, S_noL, R.noL, Option.map, true_and, and_true, ge_iff_le, gt_iff_lt, implies_true, q_ite_t, q_ite_f, beq_iff_eq, bne_iff_ne, q_ne, Nat.reduceAdd, Nat.reducePow, Int.reducePow, Nat.reduceMul, Nat.reduceSub, Nat.reduceLeDiff, Nat.reduceLT, Nat.reduceEqDiff, Int.reduceNeg, Int.reduceLT, Int.reduceLE, Int.reduceEq, Int.reduceNe, Int.reduceAdd, Int.reduceSub, Int.reduceMul, Int.reduceToNat, Int.reduceBEq, Int.reduceBNe, df73, h0, Bool.and_assoc, sub, put, fillP, List.take_succ_cons, List.take_zero, List.drop_zero]
    exact hR
theorem siB_snd : Snd Try.prog 107 (FSpec.of siBG) := snd_run To3_snd mixed Try.func107 dc107 200 fun args h K hc hS => by
  obtain ⟨q, rfl, hR⟩ := siF_spec hS
  clear hS
  simp only [spec_ok, Si.B, Si.R] at hR
  simp only [Si.cl]
  cases hb : in3 q.b 0 65535
  · rw [hb] at hR
    simp (config := { maxSteps := 10000000 }) only [run_drx, run_xd, run_xq, run_xg, run_xb, EV1, EV2, EV3, EV4, EV5, EV6, addT, istep, lenR_sl, lenR_ns, lenR_es, pickR, putD, bin1R, un1R, slcR, bnd, capsOf, fillP, S_plain, V_plain, V.cells, S_known, V_known, C.v, blk, setL, setH, eqS, eq1, cmpS, cmp1, isNil, popTo, killT, setT, leT, V.below, C.below, S_below, R.below, V.val, C.val, S_val, R.val, R.takes, vals, shows, List.any_cons, List.any_nil, unnamed, V.kill, V.names, C.names, S_names, R.names, List.set, List.replicate, ↓q_cond_t, ↓q_cond_f, if_true, if_false, reduceCtorEq, rvals, rvC, result, C_known, V.noL, C.noL, S_noL, R.noL, Option.map, true_and, and_true, ge_iff_le, gt_iff_lt, implies_true, q_ite_t, q_ite_f, beq_iff_eq, bne_iff_ne, q_ne, Nat.reduceAdd, Nat.reducePow, Int.reducePow, Nat.reduceMul, Nat.reduceSub, Nat.reduceLeDiff, Nat.reduceLT, Nat.reduceEqDiff, Int.reduceNeg, Int.reduceLT, Int.reduceLE, Int.reduceEq, Int.reduceNe, Int.reduceAdd, Int.reduceSub, Int.reduceMul, Int.reduceToNat, Int.reduceBEq, Int.reduceBNe, df107, To3, rinG, hb, sub, put, fillP, List.take_succ_cons, List.take_zero, List.drop_zero]
    exact hR
  cases hg : in3 q.g 0 268435455
  · rw [hb, hg] at hR
    simp (config := { maxSteps := 10000000 }) only [run_drx, run_xd, run_xq, run_xg, run_xb, EV1, EV2, EV3, EV4, EV5, EV6, addT, istep, lenR_sl, lenR_ns, lenR_es, pickR, putD, bin1R, un1R, slcR, bnd, capsOf, fillP, S_plain, V_plain, V.cells, S_known, V_known, C.v, blk, setL, setH, eqS, eq1, cmpS, cmp1, isNil, popTo, killT, setT, leT, V.below, C.below, S_below, R.below, V.val, C.val, S_val, R.val, R.takes, vals, shows, List.any_cons, List.any_nil, unnamed, V.kill, V.names, C.names, S_names, R.names, List.set, List.replicate, ↓q_cond_t, ↓q_cond_f, if_true, if_false, reduceCtorEq, rvals, rvC, result, C_known, V.noL, C.noL, S_noL, R.noL, Option.map, true_and, and_true, ge_iff_le, gt_iff_lt, implies_true, q_ite_t, q_ite_f, beq_iff_eq, bne_iff_ne, q_ne, Nat.reduceAdd, Nat.reducePow, Int.reducePow, Nat.reduceMul, Nat.reduceSub, Nat.reduceLeDiff, Nat.reduceLT, Nat.reduceEqDiff, Int.reduceNeg, Int.reduceLT, Int.reduceLE, Int.reduceEq, Int.reduceNe, Int.reduceAdd, Int.reduceSub, Int.reduceMul, Int.reduceToNat, Int.reduceBEq, Int.reduceBNe, df107, To3, rinG, hb, hg, sub, put, fillP, List.take_succ_cons, List.take_zero, List.drop_zero]
    exact hR
  cases h0 : (q.s == 0)
  · cases h1 : (q.s == 1)
    · cases h2 : (q.s == 2)
      · rw [hb, hg, h0, h1, h2] at hR
        simp (config := { maxSteps := 10000000 }) only [run_drx, run_xd, run_xq, run_xg, run_xb, EV1, EV2, EV3, EV4, EV5, EV6, addT, istep, lenR_sl, lenR_ns, lenR_es, pickR, putD, bin1R, un1R, slcR, bnd, capsOf, fillP, S_plain, V_plain, V.cells, S_known, V_known, C.v, blk, setL, setH, eqS, eq1, cmpS, cmp1, isNil, popTo, killT, setT, leT, V.below, C.below, S_below, R.below, V.val, C.val, S_val, R.val, R.takes, vals, shows, List.any_cons, List.any_nil, unnamed, V.kill, V.names, C.names, S_names, R.names, List.set, List.replicate, ↓q_cond_t, ↓q_cond_f, if_true, if_false, reduceCtorEq, rvals, rvC, result, C_known, V.noL, C.noL, S_noL, R.noL, Option.map, true_and, and_true, ge_iff_le, gt_iff_lt, implies_true, q_ite_t, q_ite_f, beq_iff_eq, bne_iff_ne, q_ne, Nat.reduceAdd, Nat.reducePow, Int.reducePow, Nat.reduceMul, Nat.reduceSub, Nat.reduceLeDiff, Nat.reduceLT, Nat.reduceEqDiff, Int.reduceNeg, Int.reduceLT, Int.reduceLE, Int.reduceEq, Int.reduceNe, Int.reduceAdd, Int.reduceSub, Int.reduceMul, Int.reduceToNat, Int.reduceBEq, Int.reduceBNe, df107, To3, rinG, hb, hg, h0, h1, h2, Bool.and_assoc, sub, put, fillP, List.take_succ_cons, List.take_zero, List.drop_zero]
        exact hR
      · rw [hb, hg, h0, h1, h2] at hR
        simp (config := { maxSteps := 10000000 }) only [run_drx, run_xd, run_xq, run_xg, run_xb, EV1, EV2, EV3, EV4, EV5, EV6, addT, istep, lenR_sl, lenR_ns, lenR_es, pickR, putD, bin1R, un1R, slcR, bnd, capsOf, fillP, S_plain, V_plain, V.cells, S_known, V_known, C.v, blk, setL, setH, eqS, eq1, cmpS, cmp1, isNil, popTo, killT, setT, leT, V.below, C.below, S_below, R.below, V.val, C.val, S_val, R.val, R.takes, vals, shows, List.any_cons, List.any_nil, unnamed, V.kill, V.names, C.names, S_names, R.names, List.set, List.replicate, ↓q_cond_t, ↓q_cond_f, if_true, if_false, reduceCtorEq, rvals, rvC, result, C_known, V.noL, C.noL, S_noL, R.noL, Option.map, true_and, and_true, ge_iff_le, gt_iff_lt, implies_true, q_ite_t, q_ite_f, beq_iff_eq, bne_iff_ne, q_ne, Nat.reduceAdd, Nat.reducePow, Int.reducePow, Nat.reduceMul, Nat.reduceSub, Nat.reduceLeDiff, Nat.reduceLT, Nat.reduceEqDiff, Int.reduceNeg, Int.reduceLT, Int.reduceLE, Int.reduceEq, Int.reduceNe, Int.reduceAdd, Int.reduceSub, Int.reduceMul, Int.reduceToNat, Int.reduceBEq, Int.reduceBNe, df107, To3, rinG, hb, hg, h0, h1, h2, Bool.and_assoc, sub, put, fillP, List.take_succ_cons, List.take_zero, List.drop_zero]
        exact hR
    · rw [hb, hg, h0, h1] at hR
      simp (config := { maxSteps := 10000000 }) only [run_drx, run_xd, run_xq, run_xg, run_xb, EV1, EV2, EV3, EV4, EV5, EV6, addT, istep, lenR_sl, lenR_ns, lenR_es, pickR, putD, bin1R, un1R, slcR, bnd, capsOf, fillP, S_plain, V_plain, V.cells, S_known, V_known, C.v, blk, setL, setH, eqS, eq1, cmpS, cmp1, isNil, popTo, killT, setT, leT, V.below, C.below, S_below, R.below, V.val, C.val, S_val, R.val, R.takes, vals, shows, List.any_cons, List.any_nil, unnamed, V.kill, V.names, C.names, S_names, R.names, List.set, List.replicate, ↓q_cond_t, ↓q_cond_f, if_true, if_false, reduceCtorEq, rvals, rvC, result, C_known, V.noL, C.noL, S_noL, R.noL, Option.map, true_and, and_true, ge_iff_le, gt_iff_lt, implies_true, q_ite_t, q_ite_f, beq_iff_eq, bne_iff_ne, q_ne, Nat.reduceAdd, Nat.reducePow, Int.reducePow, Nat.reduceMul, Nat.reduceSub, Nat.reduceLeDiff, Nat.reduceLT, Nat.reduceEqDiff, Int.reduceNeg, Int.reduceLT, Int.reduceLE, Int.reduceEq, Int.reduceNe, Int.reduceAdd, Int.reduceSub, Int.reduceMul, Int.reduceToNat, Int.reduceBEq, Int.reduceBNe, df107, To3, rinG, hb, hg, h0, h1, Bool.and_assoc, sub, put, fillP, List.take_succ_cons, List.take_zero, List.drop_zero]
      exact hR
  · rw [hb, hg, h0] at hR
    simp (config := { maxSteps := 10000000 }) only [run_drx, run_xd, run_xq, run_xg, run_xb, EV1, EV2, EV3, EV4, EV5, EV6, addT, istep, lenR_sl, lenR_ns, lenR_es, pickR, putD, bin1R, un1R, slcR, bnd, capsOf, fillP, S_plain, V_plain, V.cells, S_known, V_known, C.v, blk, setL, setH, eqS, eq1, cmpS, cmp1, isNil, popTo, killT, setT, leT, V.below, C.below, S_below, R.below, V.val, C.val, S_val, R.val, R.takes, vals, shows, List.any_cons, List.any_nil, unnamed, V.kill, V.names, C.names, S_names, R.names, List.set, List.replicate, ↓q_cond_t, ↓q_cond_f, if_true, if_false, reduceCtorEq, rvals, rvC, result, C_known, V.noL, C.noL, S_noL, R.noL, Option.map, true_and, and_true, ge_iff_le, gt_iff_lt, implies_true, q_ite_t, q_ite_f, beq_iff_eq, bne_iff_ne, q_ne, Nat.reduceAdd, Nat.reducePow, Int.reducePow, Nat.reduceMul, Nat.reduceSub, Nat.reduceLeDiff, Nat.reduceLT, Nat.reduceEqDiff, Int.reduceNeg, Int.reduceLT, Int.reduceLE, Int.reduceEq, Int.reduceNe, Int.reduceAdd, Int.reduceSub, Int.reduceMul, Int.reduceToNat, Int.reduceBEq, Int.reduceBNe, df107, To3, rinG, hb, hg, h0, Bool.and_assoc, sub, put, fillP, List.take_succ_cons, List.take_zero, List.drop_zero]
    exact hR

/-! ### Signal, SetSignal -/
def M.sgE (m : M) (a : Int) : Int := if otB m a 8 then (if siOk (m.at a) (m.at (a + 1)) then 0 else 90) else 20
def M.sgV (m : M) (a : Int) : Si := if otB m a 8 && siOk (m.at a) (m.at (a + 1)) then siOf (m.at a) (m.at (a + 1)) else siZ
def M.sgX (m : M) (a : Int) : M := if otB m a 8 then (m.tick 1).tick 1 else m
def M.ssE (m : M) (a : Int) (q : Si) : Int := if otB m a 8 then (if q.B then 0 else 90) else 20
def M.ssX (m : M) (a : Int) (q : Si) : M := if otB m a 8 && q.B then (((m.put a.toNat q.v).tick 1).put (a + 1).toNat q.w).tick 1 else m
def sgetM (b : Nat) (m : M) (st : M → List Blk) : List V → Res
  | [.s (.i .i64 a)] => .ok (.tup [.agg (m.sgV a).cl, .s (.i .i64 (m.sgE a))]) [] (st (m.sgX a))
  | _ => .bad
noncomputable def sgetG := memF sgetM
def Si.up (q : Si) : Prop := sml q.s ∧ sml q.h ∧ sml q.t ∧ sml q.g ∧ sml q.b
def ssetM (b : Nat) (m : M) (st : M → List Blk) : List V → Res
  | [.s (.i .i64 a), x] => siF (fun q => .ob q.up (.ok (.s (.i .i64 (m.ssE a q))) [] (st (m.ssX a q)))) [x]
  | _ => .bad
noncomputable def ssetG := memF ssetM
noncomputable def ToS : Tab := addT 69 otG (addT 102 otG (addT 70 readG (addT 100 readG (addT 78 writeG (addT 91 writeG (addT 71 ounpG (addT 80 opackG (addT 73 siCG (addT 107 siBG (addT 106 queuedG (noT)))))))))))
theorem ToS_snd : ToS.Snd Try.prog := addT_snd ok69 ot_snd (addT_snd ok102 rot_snd (addT_snd ok70 mread_snd (addT_snd ok100 rread_snd (addT_snd ok78 mwrite_snd (addT_snd ok91 rwrite_snd (addT_snd ok71 ounp_snd (addT_snd ok80 opack_snd (addT_snd ok73 siC_snd (addT_snd ok107 siB_snd (addT_snd ok106 queued_snd ((noT_snd _))))))))))))
theorem rsget_snd : Snd Try.prog 85 (FSpec.of sgetG) := snd_run ToS_snd mixed Try.func85 dc85 300 fun args h K hc hS => by
  obtain ⟨a, b, m, rest, rfl, H, hS1⟩ := memF_spec hS
  clear hS
  have hS := hS1
  clear hS1
  unfold sgetM at hS
  split at hS
  · rename_i x
    simp only [spec_ok, M.sgE, M.sgV, M.sgX] at hS
    have n4 : (0 : Int) < 8 ∧ (8 : Int) ≤ 64 := by decide
    cases ht : otB m x 8 with
    | false =>
      simp only [ht, Bool.false_and, Bool.false_eq_true, if_false, setM_self H, siZ, Si.cl] at hS
      simp (config := { maxSteps := 10000000 }) only [run_drx, run_xd, run_xq, run_xg, run_xb, EV1, EV2, EV3, EV4, EV5, EV6, addT, istep, lenR_sl, lenR_ns, lenR_es, pickR, putD, bin1R, un1R, slcR, bnd, capsOf, fillP, S_plain, V_plain, V.cells, S_known, V_known, C.v, blk, setL, setH, eqS, eq1, cmpS, cmp1, isNil, popTo, killT, setT, leT, V.below, C.below, S_below, R.below, V.val, C.val, S_val, R.val, R.takes, vals, shows, List.any_cons, List.any_nil, unnamed, V.kill, V.names, C.names, S_names, R.names, List.set, List.replicate, ↓q_cond_t, ↓q_cond_f, if_true, if_false, reduceCtorEq, rvals, rvC, result, C_known, V.noL, C.noL, S_noL, R.noL, Option.map, true_and, and_true, ge_iff_le, gt_iff_lt, implies_true, q_ite_t, q_ite_f, beq_iff_eq, bne_iff_ne, q_ne, Nat.reduceAdd, Nat.reducePow, Int.reducePow, Nat.reduceMul, Nat.reduceSub, Nat.reduceLeDiff, Nat.reduceLT, Nat.reduceEqDiff, Int.reduceNeg, Int.reduceLT, Int.reduceLE, Int.reduceEq, Int.reduceNe, Int.reduceAdd, Int.reduceSub, Int.reduceMul, Int.reduceToNat, Int.reduceBEq, Int.reduceBNe, df85, ToS, otG, memF_eq H, memF_set H, otM, n4, setM_self H, ht, put, fillP, sub, List.take_succ_cons, List.take_zero, List.drop_zero]
      exact hS
    | true =>
      simp only [ht, Bool.true_and, if_true] at hS
      have hb := otB_iff.1 ht
      have hl := m.l
      have h0 : m.has x 1 = true := M.has_of (by omega)
      have h1 : m.has (x + 1) 1 = true := M.has_of (by omega)
      have x1 : IntKind.i64.wrap (x + 1) = x + 1 := wrap64 (by omega) (by omega)
      have hu := m.at_u x
      have hv := m.at_u (x + 1)
      obtain ⟨w, hw⟩ : ∃ w, m.at x = w := ⟨_, rfl⟩
      obtain ⟨v, hvv⟩ : ∃ v, m.at (x + 1) = v := ⟨_, rfl⟩
      rw [hw] at hu hS
      rw [hvv] at hv hS
      have hu2 : 0 ≤ w ∧ w < 18446744073709551616 := hu
      have hv2 : 0 ≤ v ∧ v < 18446744073709551616 := hv
      have t1 : w.tmod 4 = w % 4 := Int.tmod_eq_emod_of_nonneg (by omega)
      have t2 : (w / 4).tmod 65536 = w / 4 % 65536 := Int.tmod_eq_emod_of_nonneg (by omega)
      have t3 : (w / 262144).tmod 65536 = w / 262144 % 65536 := Int.tmod_eq_emod_of_nonneg (by omega)
      have t4 : v.tmod 268435456 = v % 268435456 := Int.tmod_eq_emod_of_nonneg (by omega)
      have t5 : (v / 268435456).tmod 65536 = v / 268435456 % 65536 := Int.tmod_eq_emod_of_nonneg (by omega)
      have i1 : IntKind.i64.wrap (w % 4) = w % 4 := wrap64 (by omega) (by omega)
      have i2 : IntKind.i64.wrap (w / 4 % 65536) = w / 4 % 65536 := wrap64 (by omega) (by omega)
      have i3 : IntKind.i64.wrap (w / 262144 % 65536) = w / 262144 % 65536 := wrap64 (by omega) (by omega)
      have i4 : IntKind.i64.wrap (v % 268435456) = v % 268435456 := wrap64 (by omega) (by omega)
      have i5 : IntKind.i64.wrap (v / 268435456 % 65536) = v / 268435456 % 65536 := wrap64 (by omega) (by omega)
      have hq := quOf_w hu
      simp only [quOf] at hq
      have o1 : 0 ≤ w % 4 ∧ w % 4 ≤ 3 ∧ 0 ≤ w / 4 % 65536 ∧ w / 4 % 65536 ≤ 65535 ∧ 0 ≤ w / 262144 % 65536 ∧ w / 262144 % 65536 ≤ 65535 := by omega
      have m28 : min 28 IntKind.u64.bits = 28 := rfl
      cases hB : (siOf w v).B with
      | false =>
        have hk : siOk w v = false := by simp only [siOk, hB, Bool.and_false]
        simp only [hk, Bool.false_eq_true, if_false, siZ, Si.cl] at hS
        simp only [siOf] at hB
        simp (config := { maxSteps := 10000000 }) only [run_drx, run_xd, run_xq, run_xg, run_xb, EV1, EV2, EV3, EV4, EV5, EV6, addT, istep, lenR_sl, lenR_ns, lenR_es, pickR, putD, bin1R, un1R, slcR, bnd, capsOf, fillP, S_plain, V_plain, V.cells, S_known, V_known, C.v, blk, setL, setH, eqS, eq1, cmpS, cmp1, isNil, popTo, killT, setT, leT, V.below, C.below, S_below, R.below, V.val, C.val, S_val, R.val, R.takes, vals, shows, List.any_cons, List.any_nil, unnamed, V.kill, V.names, C.names, S_names, R.names, List.set, List.replicate, ↓q_cond_t, ↓q_cond_f, if_true, if_false, reduceCtorEq, rvals, rvC, result, C_known, V.noL, C.noL, S_noL, R.noL, Option.map, true_and, and_true, ge_iff_le, gt_iff_lt, implies_true, q_ite_t, q_ite_f, beq_iff_eq, bne_iff_ne, q_ne, Nat.reduceAdd, Nat.reducePow, Int.reducePow, Nat.reduceMul, Nat.reduceSub, Nat.reduceLeDiff, Nat.reduceLT, Nat.reduceEqDiff, Int.reduceNeg, Int.reduceLT, Int.reduceLE, Int.reduceEq, Int.reduceNe, Int.reduceAdd, Int.reduceSub, Int.reduceMul, Int.reduceToNat, Int.reduceBEq, Int.reduceBNe, df85, ToS, otG, memF_eq H, memF_set H, otM, n4, setM_self H, ht, readG, readM, h0, h1, x1, M.tick_has, M.at_tick, hw, hvv, min2, min18, m28, t1, t2, t3, t4, t5, i1, i2, i3, i4, i5, siBG, siF, hB, put, fillP, sub, List.take_succ_cons, List.take_zero, List.drop_zero]
        exact hS
      | true =>
        by_cases hlt : w < 17179869184
        · have hq2 : ((Qu.w ⟨w % 4, w / 4 % 65536, w / 262144 % 65536⟩) != w) = false := by simpa using hq.2 hlt
          by_cases hl2 : v < 17592186044416
          · have hk : siOk w v = true := by simp only [siOk, hB, hlt, hl2, Bool.and_true, decide_true]
            have c2 : decide (17592186044416 ≤ v) = false := by simpa using hl2
            simp only [hk, if_true, siOf, Si.cl] at hS
            simp only [siOf] at hB
            simp (config := { maxSteps := 10000000 }) only [run_drx, run_xd, run_xq, run_xg, run_xb, EV1, EV2, EV3, EV4, EV5, EV6, addT, istep, lenR_sl, lenR_ns, lenR_es, pickR, putD, bin1R, un1R, slcR, bnd, capsOf, fillP, S_plain, V_plain, V.cells, S_known, V_known, C.v, blk, setL, setH, eqS, eq1, cmpS, cmp1, isNil, popTo, killT, setT, leT, V.below, C.below, S_below, R.below, V.val, C.val, S_val, R.val, R.takes, vals, shows, List.any_cons, List.any_nil, unnamed, V.kill, V.names, C.names, S_names, R.names, List.set, List.replicate, ↓q_cond_t, ↓q_cond_f, if_true, if_false, reduceCtorEq, rvals, rvC, result, C_known, V.noL, C.noL, S_noL, R.noL, Option.map, true_and, and_true, ge_iff_le, gt_iff_lt, implies_true, q_ite_t, q_ite_f, beq_iff_eq, bne_iff_ne, q_ne, Nat.reduceAdd, Nat.reducePow, Int.reducePow, Nat.reduceMul, Nat.reduceSub, Nat.reduceLeDiff, Nat.reduceLT, Nat.reduceEqDiff, Int.reduceNeg, Int.reduceLT, Int.reduceLE, Int.reduceEq, Int.reduceNe, Int.reduceAdd, Int.reduceSub, Int.reduceMul, Int.reduceToNat, Int.reduceBEq, Int.reduceBNe, df85, ToS, otG, memF_eq H, memF_set H, otM, n4, setM_self H, ht, readG, readM, h0, h1, x1, M.tick_has, M.at_tick, hw, hvv, min2, min18, m28, t1, t2, t3, t4, t5, i1, i2, i3, i4, i5, siBG, siF, hB, queuedG, o1, hq2, hl2, c2, put, fillP, sub, List.take_succ_cons, List.take_zero, List.drop_zero]
            exact hS
          · have hk : siOk w v = false := by simp only [siOk, hlt, hl2, decide_false, Bool.false_and, Bool.and_false]
            have c2 : decide (17592186044416 ≤ v) = true := by simp; omega
            simp only [hk, Bool.false_eq_true, if_false, siZ, Si.cl] at hS
            simp only [siOf] at hB
            simp (config := { maxSteps := 10000000 }) only [run_drx, run_xd, run_xq, run_xg, run_xb, EV1, EV2, EV3, EV4, EV5, EV6, addT, istep, lenR_sl, lenR_ns, lenR_es, pickR, putD, bin1R, un1R, slcR, bnd, capsOf, fillP, S_plain, V_plain, V.cells, S_known, V_known, C.v, blk, setL, setH, eqS, eq1, cmpS, cmp1, isNil, popTo, killT, setT, leT, V.below, C.below, S_below, R.below, V.val, C.val, S_val, R.val, R.takes, vals, shows, List.any_cons, List.any_nil, unnamed, V.kill, V.names, C.names, S_names, R.names, List.set, List.replicate, ↓q_cond_t, ↓q_cond_f, if_true, if_false, reduceCtorEq, rvals, rvC, result, C_known, V.noL, C.noL, S_noL, R.noL, Option.map, true_and, and_true, ge_iff_le, gt_iff_lt, implies_true, q_ite_t, q_ite_f, beq_iff_eq, bne_iff_ne, q_ne, Nat.reduceAdd, Nat.reducePow, Int.reducePow, Nat.reduceMul, Nat.reduceSub, Nat.reduceLeDiff, Nat.reduceLT, Nat.reduceEqDiff, Int.reduceNeg, Int.reduceLT, Int.reduceLE, Int.reduceEq, Int.reduceNe, Int.reduceAdd, Int.reduceSub, Int.reduceMul, Int.reduceToNat, Int.reduceBEq, Int.reduceBNe, df85, ToS, otG, memF_eq H, memF_set H, otM, n4, setM_self H, ht, readG, readM, h0, h1, x1, M.tick_has, M.at_tick, hw, hvv, min2, min18, m28, t1, t2, t3, t4, t5, i1, i2, i3, i4, i5, siBG, siF, hB, queuedG, o1, hq2, c2, put, fillP, sub, List.take_succ_cons, List.take_zero, List.drop_zero]
            exact hS
        · have hk : siOk w v = false := by simp only [siOk, hlt, decide_false, Bool.false_and]
          simp only [hk, Bool.false_eq_true, if_false, siZ, Si.cl] at hS
          simp only [siOf] at hB
          have hq2 : ((Qu.w ⟨w % 4, w / 4 % 65536, w / 262144 % 65536⟩) != w) = true := by simpa using fun e => hlt (hq.1 e)
          simp (config := { maxSteps := 10000000 }) only [run_drx, run_xd, run_xq, run_xg, run_xb, EV1, EV2, EV3, EV4, EV5, EV6, addT, istep, lenR_sl, lenR_ns, lenR_es, pickR, putD, bin1R, un1R, slcR, bnd, capsOf, fillP, S_plain, V_plain, V.cells, S_known, V_known, C.v, blk, setL, setH, eqS, eq1, cmpS, cmp1, isNil, popTo, killT, setT, leT, V.below, C.below, S_below, R.below, V.val, C.val, S_val, R.val, R.takes, vals, shows, List.any_cons, List.any_nil, unnamed, V.kill, V.names, C.names, S_names, R.names, List.set, List.replicate, ↓q_cond_t, ↓q_cond_f, if_true, if_false, reduceCtorEq, rvals, rvC, result, C_known, V.noL, C.noL, S_noL, R.noL, Option.map, true_and, and_true, ge_iff_le, gt_iff_lt, implies_true, q_ite_t, q_ite_f, beq_iff_eq, bne_iff_ne, q_ne, Nat.reduceAdd, Nat.reducePow, Int.reducePow, Nat.reduceMul, Nat.reduceSub, Nat.reduceLeDiff, Nat.reduceLT, Nat.reduceEqDiff, Int.reduceNeg, Int.reduceLT, Int.reduceLE, Int.reduceEq, Int.reduceNe, Int.reduceAdd, Int.reduceSub, Int.reduceMul, Int.reduceToNat, Int.reduceBEq, Int.reduceBNe, df85, ToS, otG, memF_eq H, memF_set H, otM, n4, setM_self H, ht, readG, readM, h0, h1, x1, M.tick_has, M.at_tick, hw, hvv, min2, min18, m28, t1, t2, t3, t4, t5, i1, i2, i3, i4, i5, siBG, siF, hB, queuedG, o1, hq2, put, fillP, sub, List.take_succ_cons, List.take_zero, List.drop_zero]
          exact hS
  · exact hS.elim
theorem rsset_snd : Snd Try.prog 65 (FSpec.of ssetG) := snd_run ToS_snd mixed Try.func65 dc65 300 fun args h K hc hS => by
  obtain ⟨a, b, m, rest, rfl, H, hS1⟩ := memF_spec hS
  clear hS
  have hS := hS1
  clear hS1
  unfold ssetM at hS
  split at hS
  · rename_i x y
    obtain ⟨q, e, hup, hR⟩ := siF_spec hS
    clear hS
    simp only [List.cons.injEq, and_true] at e
    subst e
    simp only [spec_ok, M.ssE, M.ssX] at hR
    have n4 : (0 : Int) < 8 ∧ (8 : Int) ≤ 64 := by decide
    simp only [Si.cl]
    cases ht : otB m x 8 with
    | false =>
      simp only [ht, Bool.false_and, Bool.false_eq_true, if_false, setM_self H] at hR
      simp (config := { maxSteps := 10000000 }) only [run_drx, run_xd, run_xq, run_xg, run_xb, EV1, EV2, EV3, EV4, EV5, EV6, addT, istep, lenR_sl, lenR_ns, lenR_es, pickR, putD, bin1R, un1R, slcR, bnd, capsOf, fillP, S_plain, V_plain, V.cells, S_known, V_known, C.v, blk, setL, setH, eqS, eq1, cmpS, cmp1, isNil, popTo, killT, setT, leT, V.below, C.below, S_below, R.below, V.val, C.val, S_val, R.val, R.takes, vals, shows, List.any_cons, List.any_nil, unnamed, V.kill, V.names, C.names, S_names, R.names, List.set, List.replicate, ↓q_cond_t, ↓q_cond_f, if_true, if_false, reduceCtorEq, rvals, rvC, result, C_known, V.noL, C.noL, S_noL, R.noL, Option.map, true_and, and_true, ge_iff_le, gt_iff_lt, implies_true, q_ite_t, q_ite_f, beq_iff_eq, bne_iff_ne, q_ne, Nat.reduceAdd, Nat.reducePow, Int.reducePow, Nat.reduceMul, Nat.reduceSub, Nat.reduceLeDiff, Nat.reduceLT, Nat.reduceEqDiff, Int.reduceNeg, Int.reduceLT, Int.reduceLE, Int.reduceEq, Int.reduceNe, Int.reduceAdd, Int.reduceSub, Int.reduceMul, Int.reduceToNat, Int.reduceBEq, Int.reduceBNe, df65, ToS, otG, memF_eq H, memF_set H, otM, n4, setM_self H, ht]
      exact hR
    | true =>
      simp only [ht, Bool.true_and, if_true] at hR
      have hb := otB_iff.1 ht
      have hl := m.l
      have h0 : m.has x 1 = true := M.has_of (by omega)
      have h1 : m.has (x + 1) 1 = true := M.has_of (by omega)
      have x1 : IntKind.i64.wrap (x + 1) = x + 1 := wrap64 (by omega) (by omega)
      cases hB : q.B with
      | false =>
        simp only [hB, Bool.false_eq_true, if_false, setM_self H] at hR
        simp (config := { maxSteps := 10000000 }) only [run_drx, run_xd, run_xq, run_xg, run_xb, EV1, EV2, EV3, EV4, EV5, EV6, addT, istep, lenR_sl, lenR_ns, lenR_es, pickR, putD, bin1R, un1R, slcR, bnd, capsOf, fillP, S_plain, V_plain, V.cells, S_known, V_known, C.v, blk, setL, setH, eqS, eq1, cmpS, cmp1, isNil, popTo, killT, setT, leT, V.below, C.below, S_below, R.below, V.val, C.val, S_val, R.val, R.takes, vals, shows, List.any_cons, List.any_nil, unnamed, V.kill, V.names, C.names, S_names, R.names, List.set, List.replicate, ↓q_cond_t, ↓q_cond_f, if_true, if_false, reduceCtorEq, rvals, rvC, result, C_known, V.noL, C.noL, S_noL, R.noL, Option.map, true_and, and_true, ge_iff_le, gt_iff_lt, implies_true, q_ite_t, q_ite_f, beq_iff_eq, bne_iff_ne, q_ne, Nat.reduceAdd, Nat.reducePow, Int.reducePow, Nat.reduceMul, Nat.reduceSub, Nat.reduceLeDiff, Nat.reduceLT, Nat.reduceEqDiff, Int.reduceNeg, Int.reduceLT, Int.reduceLE, Int.reduceEq, Int.reduceNe, Int.reduceAdd, Int.reduceSub, Int.reduceMul, Int.reduceToNat, Int.reduceBEq, Int.reduceBNe, df65, ToS, otG, memF_eq H, memF_set H, otM, n4, setM_self H, ht, siBG, siF, si_eta, hB, sub, List.take_succ_cons, List.take_zero, List.drop_zero]
        exact hR
      | true =>
        simp only [hB, if_true] at hR
        obtain ⟨hu, hv⟩ := Si.w_u hB
        simp only [Si.v] at hu hR
        have o1 := Si.B_u hB
        have o2 : q.s ≤ 3 := by omega
        have m28 : min 28 IntKind.u64.bits = 28 := rfl
        have y1 : IntKind.u64.wrap q.g = q.g := wrapu (by omega) (by omega)
        have y2 : IntKind.u64.wrap q.b = q.b := wrapu (by omega) (by omega)
        have y3 : IntKind.u64.wrap (q.b * 268435456) = q.b * 268435456 := wrapu (by omega) (by omega)
        have y4 : IntKind.u64.wrap (q.g + q.b * 268435456) = q.w := by rw [wrapu (by omega) (by omega), Si.w]; omega
        simp (config := { maxSteps := 10000000 }) only [run_drx, run_xd, run_xq, run_xg, run_xb, EV1, EV2, EV3, EV4, EV5, EV6, addT, istep, lenR_sl, lenR_ns, lenR_es, pickR, putD, bin1R, un1R, slcR, bnd, capsOf, fillP, S_plain, V_plain, V.cells, S_known, V_known, C.v, blk, setL, setH, eqS, eq1, cmpS, cmp1, isNil, popTo, killT, setT, leT, V.below, C.below, S_below, R.below, V.val, C.val, S_val, R.val, R.takes, vals, shows, List.any_cons, List.any_nil, unnamed, V.kill, V.names, C.names, S_names, R.names, List.set, List.replicate, ↓q_cond_t, ↓q_cond_f, if_true, if_false, reduceCtorEq, rvals, rvC, result, C_known, V.noL, C.noL, S_noL, R.noL, Option.map, true_and, and_true, ge_iff_le, gt_iff_lt, implies_true, q_ite_t, q_ite_f, beq_iff_eq, bne_iff_ne, q_ne, Nat.reduceAdd, Nat.reducePow, Int.reducePow, Nat.reduceMul, Nat.reduceSub, Nat.reduceLeDiff, Nat.reduceLT, Nat.reduceEqDiff, Int.reduceNeg, Int.reduceLT, Int.reduceLE, Int.reduceEq, Int.reduceNe, Int.reduceAdd, Int.reduceSub, Int.reduceMul, Int.reduceToNat, Int.reduceBEq, Int.reduceBNe, df65, ToS, otG, memF_eq H, memF_set H, otM, n4, setM_self H, ht, siBG, siF, si_eta, hB, queuedG, o1, o2, writeG, writeM, h0, h1, x1, m28, y1, y2, y3, y4, M.tick_has, M.put_has, hu, hv, sub, List.take_succ_cons, List.take_zero, List.drop_zero]
        exact hR
  · exact hS.elim
end Go.Proofs.Ytdlloccodmdnnaa

