/- Package walk, and the document's: Index, Walk. -/
import Derived.Test.YtdlloccodmdnnaaZ10
import Derived.Test.YtdlloccodmdnnaaZ21
import Derived.Test.YtdlloccodmdnnaaZ16
/- Package walk, and the document's: Encode, Decode, Index. -/
namespace Go.Proofs.Ytdlloccodmdnnaa
open Go.D
set_option linter.all false
set_option maxRecDepth 100000
set_option maxHeartbeats 4000000

theorem min2u : min 2 IntKind.u64.bits = 2 := rfl
theorem min16u : min 16 IntKind.u64.bits = 16 := rfl
def encEG (args : List V) (h : List Blk) : Res := enF (fun e => .br e.may (.ok (.tup [.s (.i .u64 e.w), .s (.i .i64 0)]) [] h) (.ok (.tup [.s (.i .u64 0), .s (.i .i64 10)]) [] h)) args
def TwM : Tab := addT 115 wMayG noT
theorem TwM_snd : TwM.Snd Try.prog := addT_snd ok115 wMay_snd (noT_snd _)
theorem encE_snd : Snd Try.prog 81 (FSpec.of encEG) := snd_run TwM_snd mixed Try.func81 dc81 200 fun args h K hc hS => by
  obtain ⟨⟨v, l, a, r⟩, rfl, hR⟩ := enF_spec hS
  clear hS
  simp only [spec_br, spec_ok] at hR
  simp only [En.c]
  cases hm : (En.mk v l a r).may with
  | false =>
    have hR := hR.2 hm
    simp (config := { maxSteps := 10000000 }) only [run_drx, run_xd, run_xq, run_xg, run_xb, EV1, EV2, EV3, EV4, EV5, EV6, addT, istep, lenR_sl, lenR_ns, lenR_es, pickR, putD, bin1R, un1R, slcR, bnd, capsOf, fillP, S_plain, V_plain, V.cells, S_known, V_known, C.v, blk, setL, setH, eqS, eq1, cmpS, cmp1, isNil, popTo, killT, setT, leT, V.below, C.below, S_below, R.below, V.val, C.val, S_val, R.val, R.takes, vals, shows, List.any_cons, List.any_nil, unnamed, V.kill, V.names, C.names, S_names, R.names, List.set, List.replicate, ↓q_cond_t, ↓q_cond_f, if_true, if_false, reduceCtorEq, rvals, rvC, result, C_known, V.noL, C.noL, S_noL, R.noL, Option.map, true_and, and_true, ge_iff_le, gt_iff_lt, implies_true, q_ite_t, q_ite_f, beq_iff_eq, bne_iff_ne, q_ne, Nat.reduceAdd, Nat.reducePow, Int.reducePow, Nat.reduceMul, Nat.reduceSub, Nat.reduceLeDiff, Nat.reduceLT, Nat.reduceEqDiff, Int.reduceNeg, Int.reduceLT, Int.reduceLE, Int.reduceEq, Int.reduceNe, Int.reduceAdd, Int.reduceSub, Int.reduceMul, Int.reduceToNat, Int.reduceBEq, Int.reduceBNe, df81, TwM, wMayG, enF, hm]
    exact hR
  | true =>
    have hR := hR.1 hm
    obtain ⟨_, a1, a2, r1, r2⟩ := En.w_uu hm
    simp only at a1 a2 r1 r2
    have x1 : IntKind.u64.wrap a = a := wrapu a1 (by omega)
    have x2 : IntKind.u64.wrap (a * 65536) = a * 65536 := wrapu (by omega) (by omega)
    have x3 : IntKind.u64.wrap r = r := wrapu r1 (by omega)
    have x4 : IntKind.u64.wrap (r * 4) = r * 4 := wrapu (by omega) (by omega)
    have o1 : bits .or .u64 (a * 65536) (r * 4) = a * 65536 + r * 4 := u64_or_add (k := 16) ⟨by omega, by omega⟩ (by omega) (by omega) (by omega) (by omega)
    have o2 : bits .or .u64 (a * 65536 + r * 4) 1 = a * 65536 + r * 4 + 1 := u64_or_add (k := 2) ⟨by omega, by omega⟩ (by omega) (by omega) (by omega) (by omega)
    have o3 : bits .or .u64 (a * 65536 + r * 4 + 1) 2 = a * 65536 + r * 4 + 1 + 2 := or_leaf ⟨by omega, by omega⟩ (by omega)
    cases v <;> cases l
    · simp (config := { maxSteps := 10000000 }) only [run_drx, run_xd, run_xq, run_xg, run_xb, EV1, EV2, EV3, EV4, EV5, EV6, addT, istep, lenR_sl, lenR_ns, lenR_es, pickR, putD, bin1R, un1R, slcR, bnd, capsOf, fillP, S_plain, V_plain, V.cells, S_known, V_known, C.v, blk, setL, setH, eqS, eq1, cmpS, cmp1, isNil, popTo, killT, setT, leT, V.below, C.below, S_below, R.below, V.val, C.val, S_val, R.val, R.takes, vals, shows, List.any_cons, List.any_nil, unnamed, V.kill, V.names, C.names, S_names, R.names, List.set, List.replicate, ↓q_cond_t, ↓q_cond_f, if_true, if_false, reduceCtorEq, rvals, rvC, result, C_known, V.noL, C.noL, S_noL, R.noL, Option.map, true_and, and_true, ge_iff_le, gt_iff_lt, implies_true, q_ite_t, q_ite_f, beq_iff_eq, bne_iff_ne, q_ne, Nat.reduceAdd, Nat.reducePow, Int.reducePow, Nat.reduceMul, Nat.reduceSub, Nat.reduceLeDiff, Nat.reduceLT, Nat.reduceEqDiff, Int.reduceNeg, Int.reduceLT, Int.reduceLE, Int.reduceEq, Int.reduceNe, Int.reduceAdd, Int.reduceSub, Int.reduceMul, Int.reduceToNat, Int.reduceBEq, Int.reduceBNe, df81, TwM, wMayG, enF, hm, x1, x2, x3, x4, o1, o2, o3, min2u, min16u]
      simpa [En.w, bI] using hR
    · simp [En.may] at hm
    · simp (config := { maxSteps := 10000000 }) only [run_drx, run_xd, run_xq, run_xg, run_xb, EV1, EV2, EV3, EV4, EV5, EV6, addT, istep, lenR_sl, lenR_ns, lenR_es, pickR, putD, bin1R, un1R, slcR, bnd, capsOf, fillP, S_plain, V_plain, V.cells, S_known, V_known, C.v, blk, setL, setH, eqS, eq1, cmpS, cmp1, isNil, popTo, killT, setT, leT, V.below, C.below, S_below, R.below, V.val, C.val, S_val, R.val, R.takes, vals, shows, List.any_cons, List.any_nil, unnamed, V.kill, V.names, C.names, S_names, R.names, List.set, List.replicate, ↓q_cond_t, ↓q_cond_f, if_true, if_false, reduceCtorEq, rvals, rvC, result, C_known, V.noL, C.noL, S_noL, R.noL, Option.map, true_and, and_true, ge_iff_le, gt_iff_lt, implies_true, q_ite_t, q_ite_f, beq_iff_eq, bne_iff_ne, q_ne, Nat.reduceAdd, Nat.reducePow, Int.reducePow, Nat.reduceMul, Nat.reduceSub, Nat.reduceLeDiff, Nat.reduceLT, Nat.reduceEqDiff, Int.reduceNeg, Int.reduceLT, Int.reduceLE, Int.reduceEq, Int.reduceNe, Int.reduceAdd, Int.reduceSub, Int.reduceMul, Int.reduceToNat, Int.reduceBEq, Int.reduceBNe, df81, TwM, wMayG, enF, hm, x1, x2, x3, x4, o1, o2, o3, min2u, min16u]
      simpa [En.w, bI] using hR
    · simp (config := { maxSteps := 10000000 }) only [run_drx, run_xd, run_xq, run_xg, run_xb, EV1, EV2, EV3, EV4, EV5, EV6, addT, istep, lenR_sl, lenR_ns, lenR_es, pickR, putD, bin1R, un1R, slcR, bnd, capsOf, fillP, S_plain, V_plain, V.cells, S_known, V_known, C.v, blk, setL, setH, eqS, eq1, cmpS, cmp1, isNil, popTo, killT, setT, leT, V.below, C.below, S_below, R.below, V.val, C.val, S_val, R.val, R.takes, vals, shows, List.any_cons, List.any_nil, unnamed, V.kill, V.names, C.names, S_names, R.names, List.set, List.replicate, ↓q_cond_t, ↓q_cond_f, if_true, if_false, reduceCtorEq, rvals, rvC, result, C_known, V.noL, C.noL, S_noL, R.noL, Option.map, true_and, and_true, ge_iff_le, gt_iff_lt, implies_true, q_ite_t, q_ite_f, beq_iff_eq, bne_iff_ne, q_ne, Nat.reduceAdd, Nat.reducePow, Int.reducePow, Nat.reduceMul, Nat.reduceSub, Nat.reduceLeDiff, Nat.reduceLT, Nat.reduceEqDiff, Int.reduceNeg, Int.reduceLT, Int.reduceLE, Int.reduceEq, Int.reduceNe, Int.reduceAdd, Int.reduceSub, Int.reduceMul, Int.reduceToNat, Int.reduceBEq, Int.reduceBNe, df81, TwM, wMayG, enF, hm, x1, x2, x3, x4, o1, o2, o3, min2u, min16u]
      refine cast (congrArg (fun x => K (.tup [.s (.i .u64 x), .s (.i .i64 0)]) h) ?_) hR
      simp only [En.w, bI, if_true]; omega

def decEG : List V → List Blk → Res
  | [.s (.i .u64 w)], h => .ob (u64 w) (.br (enB w) (.ok (.tup [.agg (enOf w).c, .s (.i .i64 0)]) [] h) (.ok (.tup [.agg enZ.c, .s (.i .i64 10)]) [] h))
  | _, _ => .bad
def TwE : Tab := addT 81 encEG noT
theorem TwE_snd : TwE.Snd Try.prog := addT_snd ok81 encE_snd (noT_snd _)
theorem decE_snd : Snd Try.prog 75 (FSpec.of decEG) := snd_run TwE_snd mixed Try.func75 dc75 200 fun args h K hc hS => by
  unfold decEG at hS
  split at hS
  · rename_i w
    simp only [spec_ob, spec_br, spec_ok] at hS
    obtain ⟨hu, hS⟩ := hS
    have hu2 := hu
    obtain ⟨h0, h1⟩ := hu2
    have a1 := and1 hu
    have a2 := and2 hu
    have a3 : bits .and .u64 (w / 4) 3 = w / 4 % 4 := and3 ⟨by omega, by omega⟩
    have a4 : bits .and .u64 (w / 65536) 65535 = w / 65536 % 65536 := and16 ⟨by omega, by omega⟩
    have b1 : (w % 2 != 0) = decide (w % 2 = 1) := by rw [Bool.eq_iff_iff]; simp only [bne_iff_ne, decide_eq_true_eq]; omega
    have b2 : (w / 2 % 2 * 2 != 0) = decide (w / 2 % 2 = 1) := by rw [Bool.eq_iff_iff]; simp only [bne_iff_ne, decide_eq_true_eq]; omega
    have i1 : IntKind.i64.wrap (w / 4 % 4) = w / 4 % 4 := wrap64 (by omega) (by omega)
    have i2 : IntKind.i64.wrap (w / 65536 % 65536) = w / 65536 % 65536 := wrap64 (by omega) (by omega)
    simp only [enB, enOf, En.c] at hS
    obtain ⟨v, hv⟩ : ∃ v, decide (w % 2 = 1) = v := ⟨_, rfl⟩
    obtain ⟨l, hl⟩ : ∃ v, decide (w / 2 % 2 = 1) = v := ⟨_, rfl⟩
    obtain ⟨a, ha⟩ : ∃ v, w / 65536 % 65536 = v := ⟨_, rfl⟩
    obtain ⟨r, hr⟩ : ∃ v, w / 4 % 4 = v := ⟨_, rfl⟩
    rw [hr] at i1
    rw [ha] at i2
    simp only [hv, hl, ha, hr] at hS
    cases hm : (En.mk v l a r).may with
    | false =>
      have hS := hS.2 (by rw [hm]; rfl)
      simp (config := { maxSteps := 10000000 }) only [run_drx, run_xd, run_xq, run_xg, run_xb, EV1, EV2, EV3, EV4, EV5, EV6, addT, istep, lenR_sl, lenR_ns, lenR_es, pickR, putD, bin1R, un1R, slcR, bnd, capsOf, fillP, S_plain, V_plain, V.cells, S_known, V_known, C.v, blk, setL, setH, eqS, eq1, cmpS, cmp1, isNil, popTo, killT, setT, leT, V.below, C.below, S_below, R.below, V.val, C.val, S_val, R.val, R.takes, vals, shows, List.any_cons, List.any_nil, unnamed, V.kill, V.names, C.names, S_names, R.names, List.set, List.replicate, ↓q_cond_t, ↓q_cond_f, if_true, if_false, reduceCtorEq, rvals, rvC, result, C_known, V.noL, C.noL, S_noL, R.noL, Option.map, true_and, and_true, ge_iff_le, gt_iff_lt, implies_true, q_ite_t, q_ite_f, beq_iff_eq, bne_iff_ne, q_ne, Nat.reduceAdd, Nat.reducePow, Int.reducePow, Nat.reduceMul, Nat.reduceSub, Nat.reduceLeDiff, Nat.reduceLT, Nat.reduceEqDiff, Int.reduceNeg, Int.reduceLT, Int.reduceLE, Int.reduceEq, Int.reduceNe, Int.reduceAdd, Int.reduceSub, Int.reduceMul, Int.reduceToNat, Int.reduceBEq, Int.reduceBNe, df75, TwE, encEG, enF, hm, a1, a2, a3, a4, b1, b2, i1, i2, min2u, min16u, hv, hl, ha, hr, put, fillP]
      exact hS
    | true =>
      by_cases he : (En.mk v l a r).w = w
      · have hS := hS.1 (by rw [hm]; simpa using he)
        have f1 : ((En.mk v l a r).w != w) = false := by simpa using he
        simp (config := { maxSteps := 10000000 }) only [run_drx, run_xd, run_xq, run_xg, run_xb, EV1, EV2, EV3, EV4, EV5, EV6, addT, istep, lenR_sl, lenR_ns, lenR_es, pickR, putD, bin1R, un1R, slcR, bnd, capsOf, fillP, S_plain, V_plain, V.cells, S_known, V_known, C.v, blk, setL, setH, eqS, eq1, cmpS, cmp1, isNil, popTo, killT, setT, leT, V.below, C.below, S_below, R.below, V.val, C.val, S_val, R.val, R.takes, vals, shows, List.any_cons, List.any_nil, unnamed, V.kill, V.names, C.names, S_names, R.names, List.set, List.replicate, ↓q_cond_t, ↓q_cond_f, if_true, if_false, reduceCtorEq, rvals, rvC, result, C_known, V.noL, C.noL, S_noL, R.noL, Option.map, true_and, and_true, ge_iff_le, gt_iff_lt, implies_true, q_ite_t, q_ite_f, beq_iff_eq, bne_iff_ne, q_ne, Nat.reduceAdd, Nat.reducePow, Int.reducePow, Nat.reduceMul, Nat.reduceSub, Nat.reduceLeDiff, Nat.reduceLT, Nat.reduceEqDiff, Int.reduceNeg, Int.reduceLT, Int.reduceLE, Int.reduceEq, Int.reduceNe, Int.reduceAdd, Int.reduceSub, Int.reduceMul, Int.reduceToNat, Int.reduceBEq, Int.reduceBNe, df75, TwE, encEG, enF, hm, a1, a2, a3, a4, b1, b2, i1, i2, min2u, min16u, hv, hl, ha, hr, he, f1, put, fillP]
        exact hS
      · have hS := hS.2 (by rw [hm]; simpa using he)
        have f1 : ((En.mk v l a r).w != w) = true := by simpa using he
        simp (config := { maxSteps := 10000000 }) only [run_drx, run_xd, run_xq, run_xg, run_xb, EV1, EV2, EV3, EV4, EV5, EV6, addT, istep, lenR_sl, lenR_ns, lenR_es, pickR, putD, bin1R, un1R, slcR, bnd, capsOf, fillP, S_plain, V_plain, V.cells, S_known, V_known, C.v, blk, setL, setH, eqS, eq1, cmpS, cmp1, isNil, popTo, killT, setT, leT, V.below, C.below, S_below, R.below, V.val, C.val, S_val, R.val, R.takes, vals, shows, List.any_cons, List.any_nil, unnamed, V.kill, V.names, C.names, S_names, R.names, List.set, List.replicate, ↓q_cond_t, ↓q_cond_f, if_true, if_false, reduceCtorEq, rvals, rvC, result, C_known, V.noL, C.noL, S_noL, R.noL, Option.map, true_and, and_true, ge_iff_le, gt_iff_lt, implies_true, q_ite_t, q_ite_f, beq_iff_eq, bne_iff_ne, q_ne, Nat.reduceAdd, Nat.reducePow, Int.reducePow, Nat.reduceMul, Nat.reduceSub, Nat.reduceLeDiff, Nat.reduceLT, Nat.reduceEqDiff, Int.reduceNeg, Int.reduceLT, Int.reduceLE, Int.reduceEq, Int.reduceNe, Int.reduceAdd, Int.reduceSub, Int.reduceMul, Int.reduceToNat, Int.reduceBEq, Int.reduceBNe, df75, TwE, encEG, enF, hm, a1, a2, a3, a4, b1, b2, i1, i2, min2u, min16u, hv, hl, ha, hr, he, f1, put, fillP]
        exact hS
  · exact hS.elim

/-! ### the document's -/
/-! ### indices -/
end Go.Proofs.Ytdlloccodmdnnaa

/- Package walk, and the document's: Index, Walk. -/
namespace Go.Proofs.Ytdlloccodmdnnaa
open Go.D
set_option linter.all false
set_option maxRecDepth 100000
set_option maxHeartbeats 4000000

/-! ### a walk -/
structure WR where
  a : Int
  r : Int
  l : Int
  e : Int
  m : M
def WR.v (x : WR) : V := .tup [.s (.i .i64 x.a), .s (.i .i64 x.r), .s (.i .i64 x.l), .s (.i .i64 x.e)]
end Go.Proofs.Ytdlloccodmdnnaa

