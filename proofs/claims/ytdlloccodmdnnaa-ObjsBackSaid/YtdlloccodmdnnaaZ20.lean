/- Package objs: notes, in code and document. -/
import Derived.Test.YtdlloccodmdnnaaZ10
import Derived.Test.YtdlloccodmdnnaaZ19
/- Package objs: notes, in code and document. -/
namespace Go.Proofs.Ytdlloccodmdnnaa
open Go.D
set_option linter.all false
set_option maxRecDepth 100000
set_option maxHeartbeats 8000000

structure Si where
  s : Int
  h : Int
  t : Int
  g : Int
  b : Int
def Si.cl (q : Si) : List S := [.i .i64 q.s, .i .i64 q.h, .i .i64 q.t, .i .i64 q.g, .i .i64 q.b]
def siZ : Si := ⟨0, 0, 0, 0, 0⟩
def siF (f : Si → Res) : List V → Res
  | [.agg [.i .i64 a, .i .i64 b, .i .i64 c, .i .i64 d, .i .i64 e]] => f ⟨a, b, c, d, e⟩
  | _ => .bad
theorem siF_spec {f : Si → Res} {args : List V} {K : V → List Blk → Prop} (h : (siF f args).spec K) : ∃ q : Si, args = [.agg q.cl] ∧ (f q).spec K := by
  unfold siF at h
  split at h
  · exact ⟨_, rfl, h⟩
  · exact h.elim
theorem si_eta (q : Si) : (⟨q.s, q.h, q.t, q.g, q.b⟩ : Si) = q := rfl
/-- Right, as the document asks it, and as the code does. -/
def Si.R (q : Si) : Bool := cond (q.s == 0) (q.h == 0 && (q.t == 0 && q.g == 0)) (cond (q.s == 1) (in3 q.h 1 65535 && (in3 q.t 1 65535 && q.g == 0)) (cond (q.s == 2) (q.h == 0 && q.t == 0) false))
def Si.B (q : Si) : Bool := cond (in3 q.b 0 65535) (cond (in3 q.g 0 268435455) q.R false) false
def Si.C (q : Si) : Bool := cond (q.s == 0) (q.h == 0 && (q.t == 0 && !decide (0 < q.g))) (cond (q.s == 1) (decide (0 < q.h) && (decide (0 < q.t) && !decide (0 < q.g))) (cond (q.s == 2) (q.h == 0 && q.t == 0) false))
def Si.v (q : Si) : Int := Qu.w ⟨q.s, q.h, q.t⟩
def Si.w (q : Si) : Int := q.g + 268435456 * q.b
def siOf (v w : Int) : Si := ⟨v % 4, v / 4 % 65536, v / 262144 % 65536, w % 268435456, w / 268435456 % 65536⟩
def siOk (v w : Int) : Bool := decide (v < 17179869184) && (decide (w < 17592186044416) && (siOf v w).B)
theorem Si.B_u {q : Si} (h : q.B = true) : (0 ≤ q.s ∧ q.s ≤ 2 ∧ 0 ≤ q.h ∧ q.h ≤ 65535 ∧ 0 ≤ q.t ∧ q.t ≤ 65535) ∧ 0 ≤ q.g ∧ q.g < 268435456 ∧ 0 ≤ q.b ∧ q.b ≤ 65535 := by
  unfold Si.B Si.R at h
  cases h1 : in3 q.b 0 65535 <;> rw [h1] at h <;> simp only [cond_true, cond_false, Bool.false_eq_true] at h
  cases h2 : in3 q.g 0 268435455 <;> rw [h2] at h <;> simp only [cond_true, cond_false, Bool.false_eq_true] at h
  rw [in3_iff] at h1 h2
  cases h3 : (q.s == 0) <;> rw [h3] at h <;> simp only [cond_true, cond_false] at h
  · cases h4 : (q.s == 1) <;> rw [h4] at h <;> simp only [cond_true, cond_false] at h
    · cases h5 : (q.s == 2) <;> rw [h5] at h <;> simp only [cond_true, cond_false, Bool.false_eq_true] at h
      simp only [Bool.and_eq_true, beq_iff_eq] at h h5; omega
    · simp only [Bool.and_eq_true, beq_iff_eq, in3_iff] at h h4; omega
  · simp only [Bool.and_eq_true, beq_iff_eq] at h h3; omega
theorem Si.w_u {q : Si} (h : q.B = true) : u64 q.v ∧ u64 q.w := by
  have := Si.B_u h
  simp only [u64, Si.v, Si.w, Qu.w]; omega
theorem Si.CB {q : Si} (h1 : 0 ≤ q.g ∧ q.g < 268435456 ∧ 0 ≤ q.b ∧ q.b ≤ 65535) (h2 : q.h ≤ 65535 ∧ q.t ≤ 65535) : q.C = q.B := by
  obtain ⟨s, a, b, c, d⟩ := q
  simp only [Si.C, Si.B, Si.R] at *
  rw [in3_iff.2 (show 0 ≤ d ∧ d ≤ 65535 by omega), in3_iff.2 (show 0 ≤ c ∧ c ≤ 268435455 by omega)]
  simp only [cond_true]
  have hg : (!decide (0 < c)) = (c == 0) := by rw [Bool.eq_iff_iff]; simp only [Bool.not_eq_true', decide_eq_false_iff_not, beq_iff_eq]; omega
  have ha : decide (0 < a) = in3 a 1 65535 := by rw [Bool.eq_iff_iff, in3_iff]; simp only [decide_eq_true_eq]; omega
  have hb : decide (0 < b) = in3 b 1 65535 := by rw [Bool.eq_iff_iff, in3_iff]; simp only [decide_eq_true_eq]; omega
  rw [hg, ha, hb]
theorem siOf_C {v w : Int} (hv : u64 v) (hw : u64 w) : (siOf v w).C = (siOf v w).B := by
  simp only [u64] at hv hw
  refine Si.CB ?_ ?_
  · show 0 ≤ w % 268435456 ∧ w % 268435456 < 268435456 ∧ 0 ≤ w / 268435456 % 65536 ∧ w / 268435456 % 65536 ≤ 65535
    omega
  · show v / 4 % 65536 ≤ 65535 ∧ v / 262144 % 65536 ≤ 65535
    omega
theorem siOf_of {q : Si} (h : q.B = true) : siOf q.v q.w = q := by
  have := Si.B_u h
  obtain ⟨s, a, b, c, d⟩ := q
  simp only [siOf, Si.v, Si.w, Qu.w, Si.mk.injEq] at *
  omega
theorem Si.v_lt {q : Si} (h : q.B = true) : q.v < 17179869184 ∧ q.w < 17592186044416 := by
  have := Si.B_u h
  simp only [Si.v, Si.w, Qu.w]; omega

def siCG (args : List V) (h : List Blk) : Res := siF (fun q => .ok (.s (.b q.C)) [] h) args
def siBG (args : List V) (h : List Blk) : Res := siF (fun q => .ok (.s (.b q.B)) [] h) args
theorem siC_snd : Snd Try.prog 73 (FSpec.of siCG) := snd_run (noT_snd _) mixed Try.func73 dc73 200 fun args h K hc hS => by
  obtain ⟨q, rfl, hR⟩ := siF_spec hS
  clear hS
  simp only [spec_ok, Si.C] at hR
  simp only [Si.cl]
  cases h0 : (q.s == 0)
  · cases h1 : (q.s == 1)
    · cases h2 : (q.s == 2)
      · rw [h0, h1, h2] at hR
        simp (config := { maxSteps := 10000000 }) only [run_drx, run_xd, run_xq, run_xg, run_xb, EV1, EV2, EV3, EV4, EV5, EV6, addT, istep, lenR_sl, lenR_ns, lenR_es, pickR, putD, bin1R, un1R, slcR, bnd, capsOf, fillP, S_plain, V_plain, V.cells, S_known, V_known, C.v, blk, setL, setH, eqS, eq1, cmpS, cmp1, isNil, popTo, killT, setT, leT, V.below, C.below, S_below, R.below, V.val, C.val, S_val, R.val, R.takes, vals, shows, List.any_cons, List.any_nil, unnamed, V.kill, V.names, C.names, S_names, R.names, List.set, List.replicate, ↓q_cond_t, ↓q_cond_f, if_true, if_false, reduceCtorEq, rvals, rvC, result, C_known, V.noL, C.noL, S_noL, R.noL, Option.map, true_and, and_true, ge_iff_le, gt_iff_lt, implies_true, q_ite_t, q_ite_f, beq_iff_eq, bne_iff_ne, q_ne, Nat.reduceAdd, Nat.reducePow, Int.reducePow, Nat.reduceMul, Nat.reduceSub, Nat.reduceLeDiff, Nat.reduceLT, Nat.reduceEqDiff, Int.reduceNeg, Int.reduceLT, Int.reduceLE, Int.reduceEq, Int.reduceNe, Int.reduceAdd, Int.reduceSub, Int.reduceMul, Int.reduceToNat, Int.reduceBEq, Int.reduceBNe, df73, h0, h1, h2, Bool.and_assoc, sub, put, fillP, List.take_succ_cons, List.take_zero, List.drop_zero]
        exact hR
      · rw [h0, h1, h2] at hR
        simp (config := { maxSteps := 10000000 }) only [run_drx, run_xd, run_xq, run_xg, run_xb, EV1, EV2, EV3, EV4, EV5, EV6, addT, istep, lenR_sl, lenR_ns, lenR_es, pickR, putD, bin1R, un1R, slcR, bnd, capsOf, fillP, S_plain, V_plain, V.cells, S_known, V_known, C.v, blk, setL, setH, eqS, eq1, cmpS, cmp1, isNil, popTo, killT, setT, leT, V.below, C.below, S_below, R.below, V.val, C.val, S_val, R.val, R.takes, vals, shows, List.any_cons, List.any_nil, unnamed, V.kill, V.names, C.names, S_names, R.names, List.set, List.replicate, ↓q_cond_t, ↓q_cond_f, if_true, if_false, reduceCtorEq, rvals, rvC, result, C_known, V.noL, C.noL, S_noL, R.noL, Option.map, true_and, and_true, ge_iff_le, gt_iff_lt, implies_true, q_ite_t, q_ite_f, beq_iff_eq, bne_iff_ne, q_ne, Nat.reduceAdd, Nat.reducePow, Int.reducePow, Nat.reduceMul, Nat.reduceSub, Nat.reduceLeDiff, Nat.reduceLT, Nat.reduceEqDiff, Int.reduceNeg, Int.reduceLT, Int.reduceLE, Int.reduceEq, Int.reduceNe, Int.reduceAdd, Int.reduceSub, Int.reduceMul, Int.reduceToNat, Int.reduceBEq, Int.reduceBNe, df73, h0, h1, h2, Bool.and_assoc, sub, put, fillP, List.take_succ_cons, List.take_zero, List.drop_zero]
        exact hR
    · rw [h0, h1] at hR
      simp (config := { maxSteps := 10000000 }) only [run_drx, run_xd, run_xq, run_xg, run_xb, EV1, EV2, EV3, EV4, EV5, EV6, addT, istep, lenR_sl, lenR_ns, lenR_es, pickR, putD, bin1R, un1R, slcR, bnd, capsOf, fillP, S_plain, V_plain, V.cells, S_known, V_known, C.v, blk, setL, setH, eqS, eq1, cmpS, cmp1, isNil, popTo, killT, setT, leT, V.below, C.below, S_below, R.below, V.val, C.val, S_val, R.val, R.takes, vals, shows, List.any_cons, List.any_nil, unnamed, V.kill, V.names, C.names, S_names, R.names, List.set, List.replicate, ↓q_cond_t, ↓q_cond_f, if_true, if_false, reduceCtorEq, rvals, rvC, result, C_known, V.noL, C.noL, S_noL, R.noL, Option.map, true_and, and_true, ge_iff_le, gt_iff_lt, implies_true, q_ite_t, q_ite_f, beq_iff_eq, bne_iff_ne, q_ne, Nat.reduceAdd, Nat.reducePow, Int.reducePow, Nat.reduceMul, Nat.reduceSub, Nat.reduceLeDiff, Nat.reduceLT, Nat.reduceEqDiff, Int.reduceNeg, Int.reduceLT, Int.reduceLE, Int.reduceEq, Int.reduceNe, Int.reduceAdd, Int.reduceSub, Int.reduceMul, Int.reduceToNat, Int.reduceBEq, Int.reduceBNe, df73, h0, h1, Bool.and_assoc, sub, put, fillP, List.take_succ_cons, List.take_zero, List.drop_zero]
      exact hR
  · rw [h0] at hR
    simp (config := { maxSteps := 10000000 }) only [run_drx, run_xd, run_xq, run_xg, run_xb, EV1, EV2, EV3, EV4, EV5, EV6, addT, istep, lenR_sl, lenR_ns, lenR_es, pickR, putD, bin1R, un1R, slcR, bnd, capsOf, fillP, S_plain, V_plain, V.cells, S_known, V_known, C.v, blk, setL, setH, eqS, eq1, cmpS, cmp1, isNil, popTo, killT, setT, leT, V.below, C.below, S_below, R.below, V.val, C.val, S_val, R.val, R.takes, vals, shows, List.any_cons, List.any_nil, unnamed, V.kill, V.names, C.names, S_names, R.names, List.set, List.replicate, ↓q_cond_t, ↓q_cond_f, if_true, if_false, reduceCtorEq, rvals, rvC, result, C_known, V.noL, C.noL, S_noL, R.noL, Option.map, true_and, and_true, ge_iff_le, gt_iff_lt, implies_true, q_ite_t, q_ite_f, beq_iff_eq, bne_iff_ne, q_ne, Nat.reduceAdd, Nat.reducePow, Int.reducePow, Nat.reduceMul, Nat.reduceSub, Nat.reduceLeDiff, Nat.reduceLT, Nat.reduceEqDiff, Int.reduceNeg, Int.reduceLT, Int.reduceLE, Int.reduceEq, Int.reduceNe, Int.reduceAdd, Int.reduceSub, Int.reduceMul, Int.reduceToNat, Int.reduceBEq, Int.reduceBNe, df73, h0, Bool.and_assoc, sub, put, fillP, List.take_succ_cons, List.take_zero, List.drop_zero]
    exact hR
theorem siB_snd : Snd Try.prog 107 (FSpec.of siBG) := snd_run To3_snd mixed Try.func107 dc107 200 fun args h K hc hS => by
  obtain ⟨q, rfl, hR⟩ := siF_spec hS
  clear hS
  simp only [spec_ok, Si.B, Si.R] at hR
  simp only [Si.cl]
  cases hb : in3 q.b 0 65535
  · rw [hb] at hR
    simp (config := { maxSteps := 10000000 }) only [run_drx, run_xd, run_xq, run_xg, run_xb, EV1, EV2, EV3, EV4, EV5, EV6, addT, istep, lenR_sl, lenR_ns, lenR_es, pickR, putD, bin1R, un1R, slcR, bnd, capsOf, fillP, S_plain, V_plain, V.cells, S_known, V_known, C.v, blk, setL, setH, eqS, eq1, cmpS, cmp1, isNil, popTo, killT, setT, leT, V.below, C.below, S_below, R.below, V.val, C.val, S_val, R.val, R.takes, vals, shows, List.any_cons, List.any_nil, unnamed, V.kill, V.names, C.names, S_names, R.names, List.set, List.replicate, ↓q_cond_t, ↓q_cond_f, if_true, if_false, reduceCtorEq, rvals, rvC, result, C_known, V.noL, C.noL, S_noL, R.noL, Option.map, true_and, and_true, ge_iff_le, gt_iff_lt, implies_true, q_ite_t, q_ite_f, beq_iff_eq, bne_iff_ne, q_ne, Nat.reduceAdd, Nat.reducePow, Int.reducePow, Nat.reduceMul, Nat.reduceSub, Nat.reduceLeDiff, Nat.reduceLT, Nat.reduceEqDiff, Int.reduceNeg, Int.reduceLT, Int.reduceLE, Int.reduceEq, Int.reduceNe, Int.reduceAdd, Int.reduceSub, Int.reduceMul, Int.reduceToNat, Int.reduceBEq, Int.reduceBNe, df107, To3, rinG, hb, sub, put, fillP, List.take_succ_cons, List.take_zero, List.drop_zero]
    exact hR
  cases hg : in3 q.g 0 268435455
  · rw [hb, hg] at hR
    simp (config := { maxSteps := 10000000 }) only [run_drx, run_xd, run_xq, run_xg, run_xb, EV1, EV2, EV3, EV4, EV5, EV6, addT, istep, lenR_sl, lenR_ns, lenR_es, pickR, putD, bin1R, un1R, slcR, bnd, capsOf, fillP, S_plain, V_plain, V.cells, S_known, V_known, C.v, blk, setL, setH, eqS, eq1, cmpS, cmp1, isNil, popTo, killT, setT, leT, V.below, C.below, S_below, R.below, V.val, C.val, S_val, R.val, R.takes, vals, shows, List.any_cons, List.any_nil, unnamed, V.kill, V.names, C.names, S_names, R.names, List.set, List.replicate, ↓q_cond_t, ↓q_cond_f, if_true, if_false, reduceCtorEq, rvals, rvC, result, C_known, V.noL, C.noL, S_noL, R.noL, Option.map, true_and, and_true, ge_iff_le, gt_iff_lt, implies_true, q_ite_t, q_ite_f, beq_iff_eq, bne_iff_ne, q_ne, Nat.reduceAdd, Nat.reducePow, Int.reducePow, Nat.reduceMul, Nat.reduceSub, Nat.reduceLeDiff, Nat.reduceLT, Nat.reduceEqDiff, Int.reduceNeg, Int.reduceLT, Int.reduceLE, Int.reduceEq, Int.reduceNe, Int.reduceAdd, Int.reduceSub, Int.reduceMul, Int.reduceToNat, Int.reduceBEq, Int.reduceBNe, df107, To3, rinG, hb, hg, sub, put, fillP, List.take_succ_cons, List.take_zero, List.drop_zero]
    exact hR
  cases h0 : (q.s == 0)
  · cases h1 : (q.s == 1)
    · cases h2 : (q.s == 2)
      · rw [hb, hg, h0, h1, h2] at hR
        simp (config := { maxSteps := 10000000 }) only [run_drx, run_xd, run_xq, run_xg, run_xb, EV1, EV2, EV3, EV4, EV5, EV6, addT, istep, lenR_sl, lenR_ns, lenR_es, pickR, putD, bin1R, un1R, slcR, bnd, capsOf, fillP, S_plain, V_plain, V.cells, S_known, V_known, C.v, blk, setL, setH, eqS, eq1, cmpS, cmp1, isNil, popTo, killT, setT, leT, V.below, C.below, S_below, R.below, V.val, C.val, S_val, R.val, R.takes, vals, shows, List.any_cons, List.any_nil, unnamed, V.kill, V.names, C.names, S_names, R.names, List.set, List.replicate, ↓q_cond_t, ↓q_cond_f, if_true, if_false, reduceCtorEq, rvals, rvC, result, C_known, V.noL, C.noL, S_noL, R.noL, Option.map, true_and, and_true, ge_iff_le, gt_iff_lt, implies_true, q_ite_t, q_ite_f, beq_iff_eq, bne_iff_ne, q_ne, Nat.reduceAdd, Nat.reducePow, Int.reducePow, Nat.reduceMul, Nat.reduceSub, Nat.reduceLeDiff, Nat.reduceLT, Nat.reduceEqDiff, Int.reduceNeg, Int.reduceLT, Int.reduceLE, Int.reduceEq, Int.reduceNe, Int.reduceAdd, Int.reduceSub, Int.reduceMul, Int.reduceToNat, Int.reduceBEq, Int.reduceBNe, df107, To3, rinG, hb, hg, h0, h1, h2, Bool.and_assoc, sub, put, fillP, List.take_succ_cons, List.take_zero, List.drop_zero]
        exact hR
      · rw [hb, hg, h0, h1, h2] at hR
        simp (config := { maxSteps := 10000000 }) only [run_drx, run_xd, run_xq, run_xg, run_xb, EV1, EV2, EV3, EV4, EV5, EV6, addT, istep, lenR_sl, lenR_ns, lenR_es, pickR, putD, bin1R, un1R, slcR, bnd, capsOf, fillP, S_plain, V_plain, V.cells, S_known, V_known, C.v, blk, setL, setH, eqS, eq1, cmpS, cmp1, isNil, popTo, killT, setT, leT, V.below, C.below, S_below, R.below, V.val, C.val, S_val, R.val, R.takes, vals, shows, List.any_cons, List.any_nil, unnamed, V.kill, V.names, C.names, S_names, R.names, List.set, List.replicate, ↓q_cond_t, ↓q_cond_f, if_true, if_false, reduceCtorEq, rvals, rvC, result, C_known, V.noL, C.noL, S_noL, R.noL, Option.map, true_and, and_true, ge_iff_le, gt_iff_lt, implies_true, q_ite_t, q_ite_f, beq_iff_eq, bne_iff_ne, q_ne, Nat.reduceAdd, Nat.reducePow, Int.reducePow, Nat.reduceMul, Nat.reduceSub, Nat.reduceLeDiff, Nat.reduceLT, Nat.reduceEqDiff, Int.reduceNeg, Int.reduceLT, Int.reduceLE, Int.reduceEq, Int.reduceNe, Int.reduceAdd, Int.reduceSub, Int.reduceMul, Int.reduceToNat, Int.reduceBEq, Int.reduceBNe, df107, To3, rinG, hb, hg, h0, h1, h2, Bool.and_assoc, sub, put, fillP, List.take_succ_cons, List.take_zero, List.drop_zero]
        exact hR
    · rw [hb, hg, h0, h1] at hR
      simp (config := { maxSteps := 10000000 }) only [run_drx, run_xd, run_xq, run_xg, run_xb, EV1, EV2, EV3, EV4, EV5, EV6, addT, istep, lenR_sl, lenR_ns, lenR_es, pickR, putD, bin1R, un1R, slcR, bnd, capsOf, fillP, S_plain, V_plain, V.cells, S_known, V_known, C.v, blk, setL, setH, eqS, eq1, cmpS, cmp1, isNil, popTo, killT, setT, leT, V.below, C.below, S_below, R.below, V.val, C.val, S_val, R.val, R.takes, vals, shows, List.any_cons, List.any_nil, unnamed, V.kill, V.names, C.names, S_names, R.names, List.set, List.replicate, ↓q_cond_t, ↓q_cond_f, if_true, if_false, reduceCtorEq, rvals, rvC, result, C_known, V.noL, C.noL, S_noL, R.noL, Option.map, true_and, and_true, ge_iff_le, gt_iff_lt, implies_true, q_ite_t, q_ite_f, beq_iff_eq, bne_iff_ne, q_ne, Nat.reduceAdd, Nat.reducePow, Int.reducePow, Nat.reduceMul, Nat.reduceSub, Nat.reduceLeDiff, Nat.reduceLT, Nat.reduceEqDiff, Int.reduceNeg, Int.reduceLT, Int.reduceLE, Int.reduceEq, Int.reduceNe, Int.reduceAdd, Int.reduceSub, Int.reduceMul, Int.reduceToNat, Int.reduceBEq, Int.reduceBNe, df107, To3, rinG, hb, hg, h0, h1, Bool.and_assoc, sub, put, fillP, List.take_succ_cons, List.take_zero, List.drop_zero]
      exact hR
  · rw [hb, hg, h0] at hR
    simp (config := { maxSteps := 10000000 }) only [run_drx, run_xd, run_xq, run_xg, run_xb, EV1, EV2, EV3, EV4, EV5, EV6, addT, istep, lenR_sl, lenR_ns, lenR_es, pickR, putD, bin1R, un1R, slcR, bnd, capsOf, fillP, S_plain, V_plain, V.cells, S_known, V_known, C.v, blk, setL, setH, eqS, eq1, cmpS, cmp1, isNil, popTo, killT, setT, leT, V.below, C.below, S_below, R.below, V.val, C.val, S_val, R.val, R.takes, vals, shows, List.any_cons, List.any_nil, unnamed, V.kill, V.names, C.names, S_names, R.names, List.set, List.replicate, ↓q_cond_t, ↓q_cond_f, if_true, if_false, reduceCtorEq, rvals, rvC, result, C_known, V.noL, C.noL, S_noL, R.noL, Option.map, true_and, and_true, ge_iff_le, gt_iff_lt, implies_true, q_ite_t, q_ite_f, beq_iff_eq, bne_iff_ne, q_ne, Nat.reduceAdd, Nat.reducePow, Int.reducePow, Nat.reduceMul, Nat.reduceSub, Nat.reduceLeDiff, Nat.reduceLT, Nat.reduceEqDiff, Int.reduceNeg, Int.reduceLT, Int.reduceLE, Int.reduceEq, Int.reduceNe, Int.reduceAdd, Int.reduceSub, Int.reduceMul, Int.reduceToNat, Int.reduceBEq, Int.reduceBNe, df107, To3, rinG, hb, hg, h0, Bool.and_assoc, sub, put, fillP, List.take_succ_cons, List.take_zero, List.drop_zero]
    exact hR

/-! ### Signal, SetSignal -/
def M.sgE (m : M) (a : Int) : Int := if otB m a 8 then (if siOk (m.at a) (m.at (a + 1)) then 0 else 90) else 20
def M.sgV (m : M) (a : Int) : Si := if otB m a 8 && siOk (m.at a) (m.at (a + 1)) then siOf (m.at a) (m.at (a + 1)) else siZ
def M.sgX (m : M) (a : Int) : M := if otB m a 8 then (m.tick 1).tick 1 else m
def M.ssE (m : M) (a : Int) (q : Si) : Int := if otB m a 8 then (if q.B then 0 else 90) else 20
def M.ssX (m : M) (a : Int) (q : Si) : M := if otB m a 8 && q.B then (((m.put a.toNat q.v).tick 1).put (a + 1).toNat q.w).tick 1 else m
def sgetM (b : Nat) (m : M) (st : M → List Blk) : List V → Res
  | [.s (.i .i64 a)] => .ok (.tup [.agg (m.sgV a).cl, .s (.i .i64 (m.sgE a))]) [] (st (m.sgX a))
  | _ => .bad
noncomputable def sgetG := memF sgetM
def Si.up (q : Si) : Prop := sml q.s ∧ sml q.h ∧ sml q.t ∧ sml q.g ∧ sml q.b
def ssetM (b : Nat) (m : M) (st : M → List Blk) : List V → Res
  | [.s (.i .i64 a), x] => siF (fun q => .ob q.up (.ok (.s (.i .i64 (m.ssE a q))) [] (st (m.ssX a q)))) [x]
  | _ => .bad
noncomputable def ssetG := memF ssetM
noncomputable def ToS : Tab := addT 69 otG (addT 102 otG (addT 70 readG (addT 100 readG (addT 78 writeG (addT 91 writeG (addT 71 ounpG (addT 80 opackG (addT 73 siCG (addT 107 siBG (addT 106 queuedG (noT)))))))))))
theorem ToS_snd : ToS.Snd Try.prog := addT_snd ok69 ot_snd (addT_snd ok102 rot_snd (addT_snd ok70 mread_snd (addT_snd ok100 rread_snd (addT_snd ok78 mwrite_snd (addT_snd ok91 rwrite_snd (addT_snd ok71 ounp_snd (addT_snd ok80 opack_snd (addT_snd ok73 siC_snd (addT_snd ok107 siB_snd (addT_snd ok106 queued_snd ((noT_snd _))))))))))))
end Go.Proofs.Ytdlloccodmdnnaa

