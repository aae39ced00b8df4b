/- Law 08: two memories; sets. -/
import Derived.Test.YtdlloccodmdnnaaZ10
import Derived.Test.YtdlloccodmdnnaaZ28
import Derived.Test.YtdlloccodmdnnaaZ15
/- Package objs: threads, written by the code. -/
namespace Go.Proofs.Ytdlloccodmdnnaa
open Go.D
set_option linter.all false
set_option maxRecDepth 100000
set_option maxHeartbeats 8000000

theorem tset_snd' : Snd Try.prog 39 (FSpec.of tsetG) := snd_run ToT_snd mixed Try.func39 dc39 300 fun args h K hc hS => by
  obtain ⟨a, b, m, rest, rfl, H, hS1⟩ := memF_spec hS
  clear hS
  have hS := hS1
  clear hS1
  unfold tsetM at hS
  split at hS
  · rename_i x y
    obtain ⟨t, e, hrl, ⟨hup, hru⟩, hR⟩ := thF_spec hS
    clear hS
    simp only [List.cons.injEq, and_true] at e
    subst e
    simp only [spec_ok, M.thE, M.thX] at hR
    have n4 : (0 : Int) < 64 ∧ (64 : Int) ≤ 64 := by decide
    have k1 := wc_known t.rg
    have k2 : (wc t.rg).all S.noL = true := wc_all (fun _ => rfl) _
    have k3 : (wc t.rg).length = 16 := by rw [wc_len, hrl]
    simp only [Th.c]
    cases ht : otB m x 64 with
    | false =>
      simp only [ht, Bool.false_and, Bool.false_eq_true, if_false, setM_self H] at hR
      simp (config := { maxSteps := 10000000 }) only [run_drx, run_xd, run_xq, run_xg, run_xb, EV1, EV2, EV3, EV4, EV5, EV6, addT, istep, lenR_sl, lenR_ns, lenR_es, pickR, putD, bin1R, un1R, slcR, bnd, capsOf, fillP, S_plain, V_plain, V.cells, S_known, V_known, C.v, blk, setL, setH, eqS, eq1, cmpS, cmp1, isNil, popTo, killT, setT, leT, V.below, C.below, S_below, R.below, V.val, C.val, S_val, R.val, R.takes, vals, shows, List.any_cons, List.any_nil, unnamed, V.kill, V.names, C.names, S_names, R.names, List.set, List.replicate, ↓q_cond_t, ↓q_cond_f, if_true, if_false, reduceCtorEq, rvals, rvC, result, C_known, V.noL, C.noL, S_noL, R.noL, Option.map, true_and, and_true, ge_iff_le, gt_iff_lt, implies_true, q_ite_t, q_ite_f, beq_iff_eq, bne_iff_ne, q_ne, Nat.reduceAdd, Nat.reducePow, Int.reducePow, Nat.reduceMul, Nat.reduceSub, Nat.reduceLeDiff, Nat.reduceLT, Nat.reduceEqDiff, Int.reduceNeg, Int.reduceLT, Int.reduceLE, Int.reduceEq, Int.reduceNe, Int.reduceAdd, Int.reduceSub, Int.reduceMul, Int.reduceToNat, Int.reduceBEq, Int.reduceBNe, df39, ToT, otG, memF_eq H, otM, n4, setM_self H, ht, k1, k2]
      exact hR
    | true =>
      have hb := otB_iff.1 ht
      have hl := m.l
      cases hB : t.B with
      | false =>
        simp only [ht, hB, Bool.true_and, Bool.false_eq_true, if_true, if_false, setM_self H] at hR
        simp (config := { maxSteps := 10000000 }) only [run_drx, run_xd, run_xq, run_xg, run_xb, EV1, EV2, EV3, EV4, EV5, EV6, addT, istep, lenR_sl, lenR_ns, lenR_es, pickR, putD, bin1R, un1R, slcR, bnd, capsOf, fillP, S_plain, V_plain, V.cells, S_known, V_known, C.v, blk, setL, setH, eqS, eq1, cmpS, cmp1, isNil, popTo, killT, setT, leT, V.below, C.below, S_below, R.below, V.val, C.val, S_val, R.val, R.takes, vals, shows, List.any_cons, List.any_nil, unnamed, V.kill, V.names, C.names, S_names, R.names, List.set, List.replicate, ↓q_cond_t, ↓q_cond_f, if_true, if_false, reduceCtorEq, rvals, rvC, result, C_known, V.noL, C.noL, S_noL, R.noL, Option.map, true_and, and_true, ge_iff_le, gt_iff_lt, implies_true, q_ite_t, q_ite_f, beq_iff_eq, bne_iff_ne, q_ne, Nat.reduceAdd, Nat.reducePow, Int.reducePow, Nat.reduceMul, Nat.reduceSub, Nat.reduceLeDiff, Nat.reduceLT, Nat.reduceEqDiff, Int.reduceNeg, Int.reduceLT, Int.reduceLE, Int.reduceEq, Int.reduceNe, Int.reduceAdd, Int.reduceSub, Int.reduceMul, Int.reduceToNat, Int.reduceBEq, Int.reduceBNe, df39, ToT, otG, memF_eq H, otM, n4, setM_self H, ht, k1, k2, k3, thCG, thF, unwc_wc, hrl, th_eta, hup, hB, wc_take hrl, put, fillP, sub, List.take_succ_cons, List.take_zero, List.drop_zero]
        exact hR
      | true =>
        simp only [ht, hB, Bool.true_and, if_true] at hR
        obtain ⟨i, rfl⟩ : ∃ i : Nat, x = i := ⟨x.toNat, by omega⟩
        obtain ⟨o, ho⟩ : ∃ o, i + 16 = o := ⟨_, rfl⟩
        obtain ⟨o2, ho2⟩ : ∃ o, i + 32 = o := ⟨_, rfl⟩
        have e1 : IntKind.i64.wrap ((i : Int) + 16) = (o : Int) := by rw [wrap64 (by omega) (by omega)]; omega
        have e2 : IntKind.i64.wrap ((i : Int) + 32) = (o2 : Int) := by rw [wrap64 (by omega) (by omega)]; omega
        rw [show ((i : Int) + 16).toNat = o by omega, show ((i : Int) + 32).toNat = o2 by omega] at hR
        obtain ⟨u0, u1, u2, u3⟩ := Th.h_u hB
        obtain ⟨g0, g1, g2, g3⟩ := th_hd hup hB
        obtain ⟨ws, hws⟩ : ∃ ws, [t.h0, t.h1, t.bg, t.h3] = ws := ⟨_, rfl⟩
        have hwl : ws.length = 4 := by rw [← hws]; rfl
        have hwu : ∀ v, v ∈ ws → u64 v := by
          rw [← hws]
          intro v hv
          simp only [List.mem_cons, List.not_mem_nil, or_false] at hv
          rcases hv with rfl | rfl | rfl | rfl <;> assumption
        have hwc : [S.i .u64 t.h0, S.i .u64 t.h1, S.i .u64 t.bg, S.i .u64 t.h3] = wc ws := by rw [← hws]; rfl
        rw [hws] at hR
        simp (config := { maxSteps := 10000000 }) only [run_drx, run_xd, run_xq, run_xg, run_xb, EV1, EV2, EV3, EV4, EV5, EV6, addT, istep, lenR_sl, lenR_ns, lenR_es, pickR, putD, bin1R, un1R, slcR, bnd, capsOf, fillP, S_plain, V_plain, V.cells, S_known, V_known, C.v, blk, setL, setH, eqS, eq1, cmpS, cmp1, isNil, popTo, killT, setT, leT, V.below, C.below, S_below, R.below, V.val, C.val, S_val, R.val, R.takes, vals, shows, List.any_cons, List.any_nil, unnamed, V.kill, V.names, C.names, S_names, R.names, List.set, List.replicate, ↓q_cond_t, ↓q_cond_f, if_true, if_false, reduceCtorEq, rvals, rvC, result, C_known, V.noL, C.noL, S_noL, R.noL, Option.map, true_and, and_true, ge_iff_le, gt_iff_lt, implies_true, q_ite_t, q_ite_f, beq_iff_eq, bne_iff_ne, q_ne, Nat.reduceAdd, Nat.reducePow, Int.reducePow, Nat.reduceMul, Nat.reduceSub, Nat.reduceLeDiff, Nat.reduceLT, Nat.reduceEqDiff, Int.reduceNeg, Int.reduceLT, Int.reduceLE, Int.reduceEq, Int.reduceNe, Int.reduceAdd, Int.reduceSub, Int.reduceMul, Int.reduceToNat, Int.reduceBEq, Int.reduceBNe, df39, ToT, otG, memF_eq H, otM, n4, setM_self H, ht, k1, k2, k3, thCG, thF, unwc_wc, hrl, th_eta, hup, hB, g0, g1, g2, g3, wc_take hrl, put, fillP, sub, List.take_succ_cons, List.take_zero, List.drop_zero]
        refine loop_rule (α := Nat) [9, 10, 25, 26, 27, 28, 29, 30, 31, 32, 33, 34, 35, 36] (fun q => [(24, .agg (wc ws)), (25, .s (.i .i64 q))]) (fun q => [⟨.rw, t.c, 30⟩, ⟨.rw, wc ws, 4⟩]) (fun q => setM h a b (m.wrs o ws q)) (fun q => q ≤ 4) (fun q => 4 - q) 0 (by omega) ?_ ?_
        · rw [M.wrs, setM_self H, ← hwc]
          refine Wk.same rfl rfl ?_
          simp (config := { maxSteps := 10000000 }) only [run_drx, run_xd, run_xq, run_xg, run_xb, EV1, EV2, EV3, EV4, EV5, EV6, addT, istep, lenR_sl, lenR_ns, lenR_es, pickR, putD, bin1R, un1R, slcR, bnd, capsOf, fillP, S_plain, V_plain, V.cells, S_known, V_known, C.v, blk, setL, setH, eqS, eq1, cmpS, cmp1, isNil, popTo, killT, setT, leT, V.below, C.below, S_below, R.below, V.val, C.val, S_val, R.val, R.takes, vals, shows, List.any_cons, List.any_nil, unnamed, V.kill, V.names, C.names, S_names, R.names, List.set, List.replicate, ↓q_cond_t, ↓q_cond_f, if_true, if_false, reduceCtorEq, rvals, rvC, result, C_known, V.noL, C.noL, S_noL, R.noL, Option.map, true_and, and_true, ge_iff_le, gt_iff_lt, implies_true, q_ite_t, q_ite_f, beq_iff_eq, bne_iff_ne, q_ne, Nat.reduceAdd, Nat.reducePow, Int.reducePow, Nat.reduceMul, Nat.reduceSub, Nat.reduceLeDiff, Nat.reduceLT, Nat.reduceEqDiff, Int.reduceNeg, Int.reduceLT, Int.reduceLE, Int.reduceEq, Int.reduceNe, Int.reduceAdd, Int.reduceSub, Int.reduceMul, Int.reduceToNat, Int.reduceBEq, Int.reduceBNe, Int.natCast_zero]
        · rintro X q hq IH
          rcases Nat.lt_or_ge q 4 with h1 | h1
          · have d1 : ((q : Int) < 4) := by omega
            have d3 : (0 : Int) ≤ q := by omega
            have d4 : IntKind.i64.wrap ((q : Int) + 1) = ((q + 1 : Nat) : Int) := by rw [wrap64 (by omega) (by omega)]; omega
            have w1 : IntKind.i64.wrap ((o : Int) + q) = ((o + q : Nat) : Int) := by rw [wrap64 (by omega) (by omega)]; omega
            have h0 : m.has ((o + q : Nat) : Int) 1 = true := M.has_of (by omega)
            have g := wc_get (w := ws) (i := q) (by omega)
            have hu : u64 (nth 0 ws q) := by rw [nth_eq (by omega)]; exact hwu _ (List.getElem_mem _)
            have j1 : (wc ws).length = 4 := by rw [wc_len, hwl]
            refine run_sound (Tab.ok_Γ _) 100 _ _ _ _ ?_
            simp (config := { maxSteps := 10000000 }) only [run_drx, run_xd, run_xq, run_xg, run_xb, EV1, EV2, EV3, EV4, EV5, EV6, addT, istep, lenR_sl, lenR_ns, lenR_es, pickR, putD, bin1R, un1R, slcR, bnd, capsOf, fillP, S_plain, V_plain, V.cells, S_known, V_known, C.v, blk, setL, setH, eqS, eq1, cmpS, cmp1, isNil, popTo, killT, setT, leT, V.below, C.below, S_below, R.below, V.val, C.val, S_val, R.val, R.takes, vals, shows, List.any_cons, List.any_nil, unnamed, V.kill, V.names, C.names, S_names, R.names, List.set, List.replicate, ↓q_cond_t, ↓q_cond_f, if_true, if_false, reduceCtorEq, rvals, rvC, result, C_known, V.noL, C.noL, S_noL, R.noL, Option.map, true_and, and_true, ge_iff_le, gt_iff_lt, implies_true, q_ite_t, q_ite_f, beq_iff_eq, bne_iff_ne, q_ne, Nat.reduceAdd, Nat.reducePow, Int.reducePow, Nat.reduceMul, Nat.reduceSub, Nat.reduceLeDiff, Nat.reduceLT, Nat.reduceEqDiff, Int.reduceNeg, Int.reduceLT, Int.reduceLE, Int.reduceEq, Int.reduceNe, Int.reduceAdd, Int.reduceSub, Int.reduceMul, Int.reduceToNat, Int.reduceBEq, Int.reduceBNe, ToT, e1, d1, d3, d4, w1, writeG, memF_set H, writeM, M.wrs_has, h0, h1, g, hu, j1, Int.toNat_natCast, wc_known]
            exact IH (q + 1) _ (by omega) (by omega) (Wk.same rfl rfl (by simp (config := { maxSteps := 10000000 }) only [run_drx, run_xd, run_xq, run_xg, run_xb, EV1, EV2, EV3, EV4, EV5, EV6, addT, istep, lenR_sl, lenR_ns, lenR_es, pickR, putD, bin1R, un1R, slcR, bnd, capsOf, fillP, S_plain, V_plain, V.cells, S_known, V_known, C.v, blk, setL, setH, eqS, eq1, cmpS, cmp1, isNil, popTo, killT, setT, leT, V.below, C.below, S_below, R.below, V.val, C.val, S_val, R.val, R.takes, vals, shows, List.any_cons, List.any_nil, unnamed, V.kill, V.names, C.names, S_names, R.names, List.set, List.replicate, ↓q_cond_t, ↓q_cond_f, if_true, if_false, reduceCtorEq, rvals, rvC, result, C_known, V.noL, C.noL, S_noL, R.noL, Option.map, true_and, and_true, ge_iff_le, gt_iff_lt, implies_true, q_ite_t, q_ite_f, beq_iff_eq, bne_iff_ne, q_ne, Nat.reduceAdd, Nat.reducePow, Int.reducePow, Nat.reduceMul, Nat.reduceSub, Nat.reduceLeDiff, Nat.reduceLT, Nat.reduceEqDiff, Int.reduceNeg, Int.reduceLT, Int.reduceLE, Int.reduceEq, Int.reduceNe, Int.reduceAdd, Int.reduceSub, Int.reduceMul, Int.reduceToNat, Int.reduceBEq, Int.reduceBNe]))
          · have : q = 4 := by omega
            subst this
            clear IH
            simp only [Th.c]
            refine run_sound (Tab.ok_Γ _) 100 _ _ _ _ ?_
            simp (config := { maxSteps := 10000000 }) only [run_drx, run_xd, run_xq, run_xg, run_xb, EV1, EV2, EV3, EV4, EV5, EV6, addT, istep, lenR_sl, lenR_ns, lenR_es, pickR, putD, bin1R, un1R, slcR, bnd, capsOf, fillP, S_plain, V_plain, V.cells, S_known, V_known, C.v, blk, setL, setH, eqS, eq1, cmpS, cmp1, isNil, popTo, killT, setT, leT, V.below, C.below, S_below, R.below, V.val, C.val, S_val, R.val, R.takes, vals, shows, List.any_cons, List.any_nil, unnamed, V.kill, V.names, C.names, S_names, R.names, List.set, List.replicate, ↓q_cond_t, ↓q_cond_f, if_true, if_false, reduceCtorEq, rvals, rvC, result, C_known, V.noL, C.noL, S_noL, R.noL, Option.map, true_and, and_true, ge_iff_le, gt_iff_lt, implies_true, q_ite_t, q_ite_f, beq_iff_eq, bne_iff_ne, q_ne, Nat.reduceAdd, Nat.reducePow, Int.reducePow, Nat.reduceMul, Nat.reduceSub, Nat.reduceLeDiff, Nat.reduceLT, Nat.reduceEqDiff, Int.reduceNeg, Int.reduceLT, Int.reduceLE, Int.reduceEq, Int.reduceNe, Int.reduceAdd, Int.reduceSub, Int.reduceMul, Int.reduceToNat, Int.reduceBEq, Int.reduceBNe, Int.lt_irrefl, k1, k2, k3, wc_take hrl, sub, List.take_succ_cons, List.take_zero, List.drop_zero, List.drop_succ_cons]
            refine loop_rule (α := Nat) [11, 12, 39, 40, 41, 42, 43, 44, 45, 46, 47, 48, 49, 50] (fun q => [(38, .agg (wc t.rg)), (39, .s (.i .i64 q))]) (fun q => [⟨.rw, t.c, 30⟩, ⟨.rw, wc ws, 4⟩]) (fun q => setM h a b ((m.wrs o ws 4).wrs o2 t.rg q)) (fun q => q ≤ 16) (fun q => 16 - q) 0 (by omega) ?_ ?_
            · refine Wk.same rfl rfl ?_
              simp (config := { maxSteps := 10000000 }) only [run_drx, run_xd, run_xq, run_xg, run_xb, EV1, EV2, EV3, EV4, EV5, EV6, addT, istep, lenR_sl, lenR_ns, lenR_es, pickR, putD, bin1R, un1R, slcR, bnd, capsOf, fillP, S_plain, V_plain, V.cells, S_known, V_known, C.v, blk, setL, setH, eqS, eq1, cmpS, cmp1, isNil, popTo, killT, setT, leT, V.below, C.below, S_below, R.below, V.val, C.val, S_val, R.val, R.takes, vals, shows, List.any_cons, List.any_nil, unnamed, V.kill, V.names, C.names, S_names, R.names, List.set, List.replicate, ↓q_cond_t, ↓q_cond_f, if_true, if_false, reduceCtorEq, rvals, rvC, result, C_known, V.noL, C.noL, S_noL, R.noL, Option.map, true_and, and_true, ge_iff_le, gt_iff_lt, implies_true, q_ite_t, q_ite_f, beq_iff_eq, bne_iff_ne, q_ne, Nat.reduceAdd, Nat.reducePow, Int.reducePow, Nat.reduceMul, Nat.reduceSub, Nat.reduceLeDiff, Nat.reduceLT, Nat.reduceEqDiff, Int.reduceNeg, Int.reduceLT, Int.reduceLE, Int.reduceEq, Int.reduceNe, Int.reduceAdd, Int.reduceSub, Int.reduceMul, Int.reduceToNat, Int.reduceBEq, Int.reduceBNe, Int.natCast_zero]
            · rintro X q hq IH
              rcases Nat.lt_or_ge q 16 with h1 | h1
              · have d1 : ((q : Int) < 16) := by omega
                have d3 : (0 : Int) ≤ q := by omega
                have d4 : IntKind.i64.wrap ((q : Int) + 1) = ((q + 1 : Nat) : Int) := by rw [wrap64 (by omega) (by omega)]; omega
                have w1 : IntKind.i64.wrap ((o2 : Int) + q) = ((o2 + q : Nat) : Int) := by rw [wrap64 (by omega) (by omega)]; omega
                have h0 : m.has ((o2 + q : Nat) : Int) 1 = true := M.has_of (by omega)
                have g := wc_get (w := t.rg) (i := q) (by omega)
                have hu : u64 (nth 0 t.rg q) := by rw [nth_eq (by omega)]; exact hru _ (List.getElem_mem _)
                refine run_sound (Tab.ok_Γ _) 100 _ _ _ _ ?_
                simp (config := { maxSteps := 10000000 }) only [run_drx, run_xd, run_xq, run_xg, run_xb, EV1, EV2, EV3, EV4, EV5, EV6, addT, istep, lenR_sl, lenR_ns, lenR_es, pickR, putD, bin1R, un1R, slcR, bnd, capsOf, fillP, S_plain, V_plain, V.cells, S_known, V_known, C.v, blk, setL, setH, eqS, eq1, cmpS, cmp1, isNil, popTo, killT, setT, leT, V.below, C.below, S_below, R.below, V.val, C.val, S_val, R.val, R.takes, vals, shows, List.any_cons, List.any_nil, unnamed, V.kill, V.names, C.names, S_names, R.names, List.set, List.replicate, ↓q_cond_t, ↓q_cond_f, if_true, if_false, reduceCtorEq, rvals, rvC, result, C_known, V.noL, C.noL, S_noL, R.noL, Option.map, true_and, and_true, ge_iff_le, gt_iff_lt, implies_true, q_ite_t, q_ite_f, beq_iff_eq, bne_iff_ne, q_ne, Nat.reduceAdd, Nat.reducePow, Int.reducePow, Nat.reduceMul, Nat.reduceSub, Nat.reduceLeDiff, Nat.reduceLT, Nat.reduceEqDiff, Int.reduceNeg, Int.reduceLT, Int.reduceLE, Int.reduceEq, Int.reduceNe, Int.reduceAdd, Int.reduceSub, Int.reduceMul, Int.reduceToNat, Int.reduceBEq, Int.reduceBNe, ToT, e2, d1, d3, d4, w1, writeG, memF_set H, writeM, M.wrs_has, h0, h1, g, hu, k1, k3, Int.toNat_natCast]
                exact IH (q + 1) _ (by omega) (by omega) (Wk.same rfl rfl (by simp (config := { maxSteps := 10000000 }) only [run_drx, run_xd, run_xq, run_xg, run_xb, EV1, EV2, EV3, EV4, EV5, EV6, addT, istep, lenR_sl, lenR_ns, lenR_es, pickR, putD, bin1R, un1R, slcR, bnd, capsOf, fillP, S_plain, V_plain, V.cells, S_known, V_known, C.v, blk, setL, setH, eqS, eq1, cmpS, cmp1, isNil, popTo, killT, setT, leT, V.below, C.below, S_below, R.below, V.val, C.val, S_val, R.val, R.takes, vals, shows, List.any_cons, List.any_nil, unnamed, V.kill, V.names, C.names, S_names, R.names, List.set, List.replicate, ↓q_cond_t, ↓q_cond_f, if_true, if_false, reduceCtorEq, rvals, rvC, result, C_known, V.noL, C.noL, S_noL, R.noL, Option.map, true_and, and_true, ge_iff_le, gt_iff_lt, implies_true, q_ite_t, q_ite_f, beq_iff_eq, bne_iff_ne, q_ne, Nat.reduceAdd, Nat.reducePow, Int.reducePow, Nat.reduceMul, Nat.reduceSub, Nat.reduceLeDiff, Nat.reduceLT, Nat.reduceEqDiff, Int.reduceNeg, Int.reduceLT, Int.reduceLE, Int.reduceEq, Int.reduceNe, Int.reduceAdd, Int.reduceSub, Int.reduceMul, Int.reduceToNat, Int.reduceBEq, Int.reduceBNe]))
              · have : q = 16 := by omega
                subst this
                clear IH
                refine run_sound (Tab.ok_Γ _) 100 _ _ _ _ ?_
                simp (config := { maxSteps := 10000000 }) only [run_drx, run_xd, run_xq, run_xg, run_xb, EV1, EV2, EV3, EV4, EV5, EV6, addT, istep, lenR_sl, lenR_ns, lenR_es, pickR, putD, bin1R, un1R, slcR, bnd, capsOf, fillP, S_plain, V_plain, V.cells, S_known, V_known, C.v, blk, setL, setH, eqS, eq1, cmpS, cmp1, isNil, popTo, killT, setT, leT, V.below, C.below, S_below, R.below, V.val, C.val, S_val, R.val, R.takes, vals, shows, List.any_cons, List.any_nil, unnamed, V.kill, V.names, C.names, S_names, R.names, List.set, List.replicate, ↓q_cond_t, ↓q_cond_f, if_true, if_false, reduceCtorEq, rvals, rvC, result, C_known, V.noL, C.noL, S_noL, R.noL, Option.map, true_and, and_true, ge_iff_le, gt_iff_lt, implies_true, q_ite_t, q_ite_f, beq_iff_eq, bne_iff_ne, q_ne, Nat.reduceAdd, Nat.reducePow, Int.reducePow, Nat.reduceMul, Nat.reduceSub, Nat.reduceLeDiff, Nat.reduceLT, Nat.reduceEqDiff, Int.reduceNeg, Int.reduceLT, Int.reduceLE, Int.reduceEq, Int.reduceNe, Int.reduceAdd, Int.reduceSub, Int.reduceMul, Int.reduceToNat, Int.reduceBEq, Int.reduceBNe, Int.lt_irrefl]
                exact hR
  · exact hS.elim
end Go.Proofs.Ytdlloccodmdnnaa

/- Law 08: two memories; sets. -/
namespace Go.Proofs.Ytdlloccodmdnnaa
open Go.D
set_option linter.all false
set_option maxRecDepth 100000
set_option maxHeartbeats 8000000

theorem memH2_inj {h h' : List Blk} {m m' r r' : M} (e : memH (memH h m) r = memH (memH h' m') r') : h = h' ∧ m = m' ∧ r = r' := by
  have hl := congrArg List.length e
  rw [memH_len, memH_len, memH_len, memH_len] at hl
  have e2 : memH (memH h m) r ++ [] = memH (memH h' m') r' ++ [] := by rw [e]
  rw [memH2_app, memH2_app] at e2
  obtain ⟨e1, e2⟩ := List.append_inj e2 (by omega)
  subst e1
  simp only [List.cons_append, List.nil_append, List.cons.injEq, MB, MW, Blk.mk.injEq, S.sl.injEq, S.i.injEq, true_and, and_true] at e2
  exact ⟨rfl, M.ext' (wc_inj e2.2.1.1) e2.1.2, M.ext' (wc_inj e2.2.2.2.1) e2.2.2.1.2⟩
open Classical in
noncomputable def twoOf (H : List Blk) (a c : Nat) : Option (List Blk × M × M) := if hx : ∃ x : List Blk × M × M, H = memH (memH x.1 x.2.1) x.2.2 ∧ a = x.1.length ∧ c = x.1.length + 2 then some (Classical.choose hx) else none
theorem twoOf_eq (h : List Blk) (m r : M) : twoOf (memH (memH h m) r) h.length (h.length + 2) = some (h, m, r) := by
  have hx : ∃ x : List Blk × M × M, memH (memH h m) r = memH (memH x.1 x.2.1) x.2.2 ∧ h.length = x.1.length ∧ h.length + 2 = x.1.length + 2 := ⟨(h, m, r), rfl, rfl, rfl⟩
  unfold twoOf
  rw [dif_pos hx]
  have := memH2_inj (Classical.choose_spec hx).1
  rw [show Classical.choose hx = (h, m, r) from Prod.ext this.1.symm (Prod.ext this.2.1.symm this.2.2.symm)]
theorem twoOf_some {H h : List Blk} {a c : Nat} {m r : M} (e : twoOf H a c = some (h, m, r)) : H = memH (memH h m) r ∧ a = h.length ∧ c = h.length + 2 := by
  unfold twoOf at e
  split at e
  · rename_i hx
    have := Classical.choose_spec hx
    rw [Option.some.injEq] at e
    rw [e] at this
    exact this
  · cases e
noncomputable def twoF (f : M → M → (M → M → List Blk) → List V → Res) : List V → List Blk → Res
  | .s (.p (.g a) 0) :: .s (.p (.g c) 0) :: rest, H => match twoOf H a c with
    | some (h, m, r) => f m r (fun m r => memH (memH h m) r) rest
    | none => .bad
  | _, _ => .bad
theorem twoF_spec {f : M → M → (M → M → List Blk) → List V → Res} {args : List V} {H : List Blk} {K : V → List Blk → Prop} (hS : (twoF f args H).spec K) :
    ∃ h m r rest, args = .s (.p (.g h.length) 0) :: .s (.p (.g (h.length + 2)) 0) :: rest ∧ H = memH (memH h m) r ∧ (f m r (fun m r => memH (memH h m) r) rest).spec K := by
  unfold twoF at hS
  split at hS
  · split at hS
    · rename_i e
      obtain ⟨e1, e2, e3⟩ := twoOf_some e
      subst e2
      subst e3
      exact ⟨_, _, _, _, rfl, e1, hS⟩
    · exact hS.elim
  · exact hS.elim
theorem twoF_eq {f : M → M → (M → M → List Blk) → List V → Res} {h : List Blk} {m r : M} {rest : List V} : twoF f (.s (.p (.g h.length) 0) :: .s (.p (.g (h.length + 2)) 0) :: rest) (memH (memH h m) r) = f m r (fun m r => memH (memH h m) r) rest := by
  simp only [twoF, twoOf_eq]

structure Oo where
  wh : Int
  ad : Int
  i : Int
  w : Int
  t : Th
  q : Qu
  s : Si
  e : En
  tb : Int
  hl : t.rg.length = 16
def Oo.cl (o : Oo) : List S := .i .i64 o.wh :: .i .i64 o.ad :: .i .i64 o.i :: .i .u64 o.w :: (o.t.c ++ (o.q.cl ++ (o.s.cl ++ (o.e.c ++ [.i .i64 o.tb]))))
theorem th_clen {t : Th} (h : t.rg.length = 16) : t.c.length = 30 := by simp [Th.c, wc_len, h]
theorem Oo.cl_len (o : Oo) : o.cl.length = 47 := by
  simp only [Oo.cl, List.length_cons, List.length_append, th_clen o.hl, Qu.cl, Si.cl, En.c, List.length_nil]
theorem th_inj {t k : Th} (h : t.c = k.c) : t = k := by
  obtain ⟨a, b, c, d, e, f, g, i, j, k, l, n, o, p, r⟩ := t
  simp only [Th.c, List.cons.injEq, S.i.injEq, S.b.injEq, true_and] at h
  obtain ⟨rfl, rfl, rfl, rfl, rfl, rfl, rfl, rfl, rfl, rfl, rfl, rfl, rfl, rfl, h⟩ := h
  rw [wc_inj h]
theorem Oo.inj {o p : Oo} (h : o.cl = p.cl) : o = p := by
  obtain ⟨a, b, c, d, t, q, s, e, n, hl⟩ := o
  obtain ⟨a', b', c', d', t', q', s', e', n', hl'⟩ := p
  simp only [Oo.cl, List.cons.injEq, S.i.injEq, true_and] at h
  obtain ⟨rfl, rfl, rfl, rfl, h⟩ := h
  obtain ⟨h1, h2⟩ := List.append_inj h (by rw [th_clen hl, th_clen hl'])
  have := th_inj h1
  subst this
  obtain ⟨s1, s2, s3⟩ := q
  obtain ⟨k1, k2, k3⟩ := q'
  obtain ⟨x1, x2, x3, x4, x5⟩ := s
  obtain ⟨y1, y2, y3, y4, y5⟩ := s'
  obtain ⟨z1, z2, z3, z4⟩ := e
  obtain ⟨w1, w2, w3, w4⟩ := e'
  simp only [Qu.cl, Si.cl, En.c, List.cons_append, List.nil_append, List.cons.injEq, S.i.injEq, S.b.injEq, true_and, and_true] at h2
  obtain ⟨rfl, rfl, rfl, rfl, rfl, rfl, rfl, rfl, rfl, rfl, rfl, rfl, rfl⟩ := h2
  rfl
instance : Cells Oo.cl := ⟨⟨47, Oo.cl_len⟩, fun x y e => Oo.inj e⟩
def Oo.u (o : Oo) : Prop := u64 o.w ∧ (o.t.up ∧ ∀ v, v ∈ o.t.rg → u64 v) ∧ o.q.up ∧ o.s.up
open Classical in
noncomputable def ooOf (cs : List S) : Option Oo := if hx : ∃ o : Oo, cs = o.cl then some (Classical.choose hx) else none
theorem ooOf_eq (o : Oo) : ooOf o.cl = some o := by
  have hx : ∃ p : Oo, o.cl = p.cl := ⟨o, rfl⟩
  unfold ooOf
  rw [dif_pos hx, ← Oo.inj (Classical.choose_spec hx)]
theorem ooOf_some {cs : List S} {o : Oo} (e : ooOf cs = some o) : cs = o.cl := by
  unfold ooOf at e
  split at e
  · rename_i hx
    have := Classical.choose_spec hx
    rw [Option.some.injEq] at e
    rwa [e] at this
  · cases e
def M.oX (m : M) (o : Oo) : M :=
  if o.wh = 1 then m.thX o.ad o.t else if o.wh = 2 then m.rsX o.ad o.i o.w else if o.wh = 3 then m.qsX o.ad o.q else if o.wh = 4 then m.ssX o.ad o.s
  else if o.wh = 5 then m.esX o.ad o.i o.e else if o.wh = 6 then m.tsX o.ad o.i o.tb else if o.wh = 7 then m.loadX o.ad [o.w] else m
noncomputable def setsM (m r : M) (st : M → M → List Blk) : List V → Res
  | [.agg cs] => match ooOf cs with
    | some o => .ob (m.w = r.w ∧ o.u) (.ok (.s (.b true)) [] (st (m.oX o) (r.oX o)))
    | none => .bad
  | _ => .bad
noncomputable def setsG := twoF setsM
section
variable {m r : M} (hw : m.w = r.w)
include hw
theorem otB_w (a n : Int) : otB m a n = otB r a n := by simp only [otB, hw]
theorem at_w (a : Int) : m.at a = r.at a := by simp only [M.at, hw]
theorem has_w (a k : Int) : m.has a k = r.has a k := by simp only [M.has, hw]
theorem plE_w (a k i hi : Int) : plE m a k i hi = plE r a k i hi := by simp only [plE, otB_w hw]
theorem thE_w (a : Int) (t : Th) : m.thE a t = r.thE a t := by simp only [M.thE, otB_w hw]
theorem rgE_w (a i : Int) : m.rgE a i = r.rgE a i := by simp only [M.rgE, plE_w hw]
theorem qsE_w (a : Int) (q : Qu) : m.qsE a q = r.qsE a q := by simp only [M.qsE, otB_w hw]
theorem ssE_w (a : Int) (q : Si) : m.ssE a q = r.ssE a q := by simp only [M.ssE, otB_w hw]
theorem esE_w (a i : Int) (e : En) : m.esE a i e = r.esE a i e := by simp only [M.esE, plE_w hw]
theorem tsE_w (a i n : Int) : m.tsE a i n = r.tsE a i n := by simp only [M.tsE, plE_w hw]
theorem loadE_w (a : Int) (vs : List Int) : m.loadE a vs = r.loadE a vs := by simp only [M.loadE, has_w hw]
end
theorem nt0 {h X : List Blk} {m n : M} : (memH (memH h m) n ++ X).take (h.length + 2 + 2) = memH (memH h m) n := by simpa using nt1 (h := h) (m := m) (n := n) (X := X) (k := 0)
theorem nd0 {h X : List Blk} {m n : M} : (memH (memH h m) n ++ X).drop (h.length + 2 + 2) = X := by simpa using nd1 (h := h) (m := m) (n := n) (X := X) (k := 0)
theorem rg16 {L : List Int} (h : L.length = 16) : ∃ a0 a1 a2 a3 a4 a5 a6 a7 a8 a9 b0 b1 b2 b3 b4 b5, L = [a0, a1, a2, a3, a4, a5, a6, a7, a8, a9, b0, b1, b2, b3, b4, b5] := by
  match L, h with
  | [a0, a1, a2, a3, a4, a5, a6, a7, a8, a9, b0, b1, b2, b3, b4, b5], _ => exact ⟨_, _, _, _, _, _, _, _, _, _, _, _, _, _, _, _, rfl⟩
noncomputable def TS8 : Tab := addT 39 tsetG (addT 62 tsetG (addT 40 rgsetG (addT 63 rgsetG (addT 42 qsetG (addT 64 qsetG (addT 43 ssetG (addT 65 ssetG (addT 44 etsetG (addT 66 etsetG (addT 45 rtsetG (addT 67 rtsetG (addT 54 load2G (addT 68 load2G (noT))))))))))))))
theorem TS8_snd : TS8.Snd Try.prog := addT_snd ok39 tset_snd' (addT_snd ok62 rtset_snd' (addT_snd ok40 rgset_snd (addT_snd ok63 rrgset_snd (addT_snd ok42 qset_snd (addT_snd ok64 rqset_snd (addT_snd ok43 sset_snd (addT_snd ok65 rsset_snd (addT_snd ok44 etset_snd (addT_snd ok66 retset_snd (addT_snd ok45 rtset_snd (addT_snd ok67 rrtset_snd (addT_snd ok54 load2_snd (addT_snd ok68 rload2_snd ((noT_snd _)))))))))))))))
theorem sets_snd : Snd Try.prog 32 (FSpec.of setsG) := snd_run TS8_snd mixed Try.func32 dc32 400 fun args H K hc hS => by
  obtain ⟨h, m, r, rest, rfl, rfl, hS1⟩ := twoF_spec hS
  clear hS
  unfold setsM at hS1
  split at hS1
  · split at hS1
    · rename_i o e
      obtain ⟨⟨hw, u1, u2, u3, u4⟩, hR⟩ := hS1
      have := ooOf_some e
      subst this
      clear e
      obtain ⟨wh, ad, i, w, t, q, s, x, tb, hl⟩ := o
      obtain ⟨s1, s2, s3⟩ := q
      obtain ⟨k1, k2, k3, k4, k5⟩ := s
      obtain ⟨x1, x2, x3, x4⟩ := x
      obtain ⟨a, b, c, d, e, f, g, ii, j, k, l, n, o, p, rg⟩ := t
      obtain ⟨a0, a1, a2, a3, a4, a5, a6, a7, a8, a9, b0, b1, b2, b3, b4, b5, rfl⟩ := rg16 hl
      simp only [spec_ok, M.oX] at hR u1 u2 u3 u4
      simp only [Oo.cl, Th.c, Qu.cl, Si.cl, En.c, wc_cons, wc_nil, List.cons_append, List.nil_append]
      by_cases h1 : wh = 1
      · subst h1
        simp only [if_true] at hR
        have hE := thE_w hw ad ⟨a, b, c, d, e, f, g, ii, j, k, l, n, o, p, [a0, a1, a2, a3, a4, a5, a6, a7, a8, a9, b0, b1, b2, b3, b4, b5]⟩
        simp (config := { maxSteps := 10000000 }) only [run_drx, run_xd, run_xq, run_xg, run_xb, EV1, EV2, EV3, EV4, EV5, EV6, addT, istep, lenR_sl, lenR_ns, lenR_es, pickR, putD, bin1R, un1R, slcR, bnd, capsOf, fillP, S_plain, V_plain, V.cells, S_known, V_known, C.v, blk, setL, setH, eqS, eq1, cmpS, cmp1, isNil, popTo, killT, setT, leT, V.below, C.below, S_below, R.below, V.val, C.val, S_val, R.val, R.takes, vals, shows, List.any_cons, List.any_nil, unnamed, V.kill, V.names, C.names, S_names, R.names, List.set, List.replicate, ↓q_cond_t, ↓q_cond_f, if_true, if_false, reduceCtorEq, rvals, rvC, result, C_known, V.noL, C.noL, S_noL, R.noL, Option.map, true_and, and_true, ge_iff_le, gt_iff_lt, implies_true, q_ite_t, q_ite_f, beq_iff_eq, bne_iff_ne, q_ne, Nat.reduceAdd, Nat.reducePow, Int.reducePow, Nat.reduceMul, Nat.reduceSub, Nat.reduceLeDiff, Nat.reduceLT, Nat.reduceEqDiff, Int.reduceNeg, Int.reduceLT, Int.reduceLE, Int.reduceEq, Int.reduceNe, Int.reduceAdd, Int.reduceSub, Int.reduceMul, Int.reduceToNat, Int.reduceBEq, Int.reduceBNe, df32, TS8, tsetG, memF_new1, memF_new2, tsetM, thF, unwc_cons, unwc_nil, List.length_cons, List.length_nil, u2, hE, put, fillP, sub, List.take_succ_cons, List.take_zero, List.drop_zero, List.drop_succ_cons]
        exact ⟨u2.2, u2.2, hR⟩
      by_cases h2 : wh = 2
      · subst h2
        simp only [Int.reduceEq, if_true, if_false] at hR
        have hE := rgE_w hw ad i
        simp (config := { maxSteps := 10000000 }) only [run_drx, run_xd, run_xq, run_xg, run_xb, EV1, EV2, EV3, EV4, EV5, EV6, addT, istep, lenR_sl, lenR_ns, lenR_es, pickR, putD, bin1R, un1R, slcR, bnd, capsOf, fillP, S_plain, V_plain, V.cells, S_known, V_known, C.v, blk, setL, setH, eqS, eq1, cmpS, cmp1, isNil, popTo, killT, setT, leT, V.below, C.below, S_below, R.below, V.val, C.val, S_val, R.val, R.takes, vals, shows, List.any_cons, List.any_nil, unnamed, V.kill, V.names, C.names, S_names, R.names, List.set, List.replicate, ↓q_cond_t, ↓q_cond_f, if_true, if_false, reduceCtorEq, rvals, rvC, result, C_known, V.noL, C.noL, S_noL, R.noL, Option.map, true_and, and_true, ge_iff_le, gt_iff_lt, implies_true, q_ite_t, q_ite_f, beq_iff_eq, bne_iff_ne, q_ne, Nat.reduceAdd, Nat.reducePow, Int.reducePow, Nat.reduceMul, Nat.reduceSub, Nat.reduceLeDiff, Nat.reduceLT, Nat.reduceEqDiff, Int.reduceNeg, Int.reduceLT, Int.reduceLE, Int.reduceEq, Int.reduceNe, Int.reduceAdd, Int.reduceSub, Int.reduceMul, Int.reduceToNat, Int.reduceBEq, Int.reduceBNe, df32, TS8, rgsetG, memF_new1, memF_new2, rgsetM, u1, hE, put, fillP, sub, List.take_succ_cons, List.take_zero, List.drop_zero, List.drop_succ_cons]
        exact hR
      by_cases h3 : wh = 3
      · subst h3
        simp only [Int.reduceEq, if_true, if_false] at hR
        have hE := qsE_w hw ad ⟨s1, s2, s3⟩
        simp (config := { maxSteps := 10000000 }) only [run_drx, run_xd, run_xq, run_xg, run_xb, EV1, EV2, EV3, EV4, EV5, EV6, addT, istep, lenR_sl, lenR_ns, lenR_es, pickR, putD, bin1R, un1R, slcR, bnd, capsOf, fillP, S_plain, V_plain, V.cells, S_known, V_known, C.v, blk, setL, setH, eqS, eq1, cmpS, cmp1, isNil, popTo, killT, setT, leT, V.below, C.below, S_below, R.below, V.val, C.val, S_val, R.val, R.takes, vals, shows, List.any_cons, List.any_nil, unnamed, V.kill, V.names, C.names, S_names, R.names, List.set, List.replicate, ↓q_cond_t, ↓q_cond_f, if_true, if_false, reduceCtorEq, rvals, rvC, result, C_known, V.noL, C.noL, S_noL, R.noL, Option.map, true_and, and_true, ge_iff_le, gt_iff_lt, implies_true, q_ite_t, q_ite_f, beq_iff_eq, bne_iff_ne, q_ne, Nat.reduceAdd, Nat.reducePow, Int.reducePow, Nat.reduceMul, Nat.reduceSub, Nat.reduceLeDiff, Nat.reduceLT, Nat.reduceEqDiff, Int.reduceNeg, Int.reduceLT, Int.reduceLE, Int.reduceEq, Int.reduceNe, Int.reduceAdd, Int.reduceSub, Int.reduceMul, Int.reduceToNat, Int.reduceBEq, Int.reduceBNe, df32, TS8, qsetG, memF_new1, memF_new2, qsetM, quF, u3, hE, put, fillP, sub, List.take_succ_cons, List.take_zero, List.drop_zero, List.drop_succ_cons]
        exact hR
      by_cases h4 : wh = 4
      · subst h4
        simp only [Int.reduceEq, if_true, if_false] at hR
        have hE := ssE_w hw ad ⟨k1, k2, k3, k4, k5⟩
        simp (config := { maxSteps := 10000000 }) only [run_drx, run_xd, run_xq, run_xg, run_xb, EV1, EV2, EV3, EV4, EV5, EV6, addT, istep, lenR_sl, lenR_ns, lenR_es, pickR, putD, bin1R, un1R, slcR, bnd, capsOf, fillP, S_plain, V_plain, V.cells, S_known, V_known, C.v, blk, setL, setH, eqS, eq1, cmpS, cmp1, isNil, popTo, killT, setT, leT, V.below, C.below, S_below, R.below, V.val, C.val, S_val, R.val, R.takes, vals, shows, List.any_cons, List.any_nil, unnamed, V.kill, V.names, C.names, S_names, R.names, List.set, List.replicate, ↓q_cond_t, ↓q_cond_f, if_true, if_false, reduceCtorEq, rvals, rvC, result, C_known, V.noL, C.noL, S_noL, R.noL, Option.map, true_and, and_true, ge_iff_le, gt_iff_lt, implies_true, q_ite_t, q_ite_f, beq_iff_eq, bne_iff_ne, q_ne, Nat.reduceAdd, Nat.reducePow, Int.reducePow, Nat.reduceMul, Nat.reduceSub, Nat.reduceLeDiff, Nat.reduceLT, Nat.reduceEqDiff, Int.reduceNeg, Int.reduceLT, Int.reduceLE, Int.reduceEq, Int.reduceNe, Int.reduceAdd, Int.reduceSub, Int.reduceMul, Int.reduceToNat, Int.reduceBEq, Int.reduceBNe, df32, TS8, ssetG, memF_new1, memF_new2, ssetM, siF, u4, hE, put, fillP, sub, List.take_succ_cons, List.take_zero, List.drop_zero, List.drop_succ_cons]
        exact hR
      by_cases h5 : wh = 5
      · subst h5
        simp only [Int.reduceEq, if_true, if_false] at hR
        have hE := esE_w hw ad i ⟨x1, x2, x3, x4⟩
        simp (config := { maxSteps := 10000000 }) only [run_drx, run_xd, run_xq, run_xg, run_xb, EV1, EV2, EV3, EV4, EV5, EV6, addT, istep, lenR_sl, lenR_ns, lenR_es, pickR, putD, bin1R, un1R, slcR, bnd, capsOf, fillP, S_plain, V_plain, V.cells, S_known, V_known, C.v, blk, setL, setH, eqS, eq1, cmpS, cmp1, isNil, popTo, killT, setT, leT, V.below, C.below, S_below, R.below, V.val, C.val, S_val, R.val, R.takes, vals, shows, List.any_cons, List.any_nil, unnamed, V.kill, V.names, C.names, S_names, R.names, List.set, List.replicate, ↓q_cond_t, ↓q_cond_f, if_true, if_false, reduceCtorEq, rvals, rvC, result, C_known, V.noL, C.noL, S_noL, R.noL, Option.map, true_and, and_true, ge_iff_le, gt_iff_lt, implies_true, q_ite_t, q_ite_f, beq_iff_eq, bne_iff_ne, q_ne, Nat.reduceAdd, Nat.reducePow, Int.reducePow, Nat.reduceMul, Nat.reduceSub, Nat.reduceLeDiff, Nat.reduceLT, Nat.reduceEqDiff, Int.reduceNeg, Int.reduceLT, Int.reduceLE, Int.reduceEq, Int.reduceNe, Int.reduceAdd, Int.reduceSub, Int.reduceMul, Int.reduceToNat, Int.reduceBEq, Int.reduceBNe, df32, TS8, etsetG, memF_new1, memF_new2, etsetM, enF, hE, put, fillP, sub, List.take_succ_cons, List.take_zero, List.drop_zero, List.drop_succ_cons]
        exact hR
      by_cases h6 : wh = 6
      · subst h6
        simp only [Int.reduceEq, if_true, if_false] at hR
        have hE := tsE_w hw ad i tb
        simp (config := { maxSteps := 10000000 }) only [run_drx, run_xd, run_xq, run_xg, run_xb, EV1, EV2, EV3, EV4, EV5, EV6, addT, istep, lenR_sl, lenR_ns, lenR_es, pickR, putD, bin1R, un1R, slcR, bnd, capsOf, fillP, S_plain, V_plain, V.cells, S_known, V_known, C.v, blk, setL, setH, eqS, eq1, cmpS, cmp1, isNil, popTo, killT, setT, leT, V.below, C.below, S_below, R.below, V.val, C.val, S_val, R.val, R.takes, vals, shows, List.any_cons, List.any_nil, unnamed, V.kill, V.names, C.names, S_names, R.names, List.set, List.replicate, ↓q_cond_t, ↓q_cond_f, if_true, if_false, reduceCtorEq, rvals, rvC, result, C_known, V.noL, C.noL, S_noL, R.noL, Option.map, true_and, and_true, ge_iff_le, gt_iff_lt, implies_true, q_ite_t, q_ite_f, beq_iff_eq, bne_iff_ne, q_ne, Nat.reduceAdd, Nat.reducePow, Int.reducePow, Nat.reduceMul, Nat.reduceSub, Nat.reduceLeDiff, Nat.reduceLT, Nat.reduceEqDiff, Int.reduceNeg, Int.reduceLT, Int.reduceLE, Int.reduceEq, Int.reduceNe, Int.reduceAdd, Int.reduceSub, Int.reduceMul, Int.reduceToNat, Int.reduceBEq, Int.reduceBNe, df32, TS8, rtsetG, memF_new1, memF_new2, rtsetM, hE, put, fillP, sub, List.take_succ_cons, List.take_zero, List.drop_zero, List.drop_succ_cons]
        exact hR
      by_cases h7 : wh = 7
      · subst h7
        simp only [Int.reduceEq, if_true, if_false] at hR
        have hE := loadE_w hw ad [w]
        have hv : ∀ v, v ∈ [w] → u64 v := fun v hv => by rw [List.mem_singleton.1 hv]; exact u1
        have hL : ∀ (m' n' : M) (B : Blk) (X : List Blk), listOf (memH (memH h m') n' ++ (B :: ⟨.rw, [.i .u64 w], 1⟩ :: X)) (.sl (.g (h.length + 2 + 2 + 1)) 0 1 1) = some [w] := fun m' n' B X => listOf_at (st := .rw) (room := 1) (by rw [nh1]; rfl) (fun x => BK.noConfusion x) rfl
        have hL2 : ∀ (m' n' : M) (B b : Blk) (X : List Blk), listOf (memH (memH h m') n' ++ (B :: b :: ⟨.rw, [.i .u64 w], 1⟩ :: X)) (.sl (.g (h.length + 2 + 2 + 2)) 0 1 1) = some [w] := fun m' n' B b X => listOf_at (st := .rw) (room := 1) (by rw [nh1]; rfl) (fun x => BK.noConfusion x) rfl
        have a1 : ∀ k, apartS (h.length + 1) (.sl (.g (h.length + 2 + 2 + k)) 0 1 1) := fun k => by simp only [apartS]; omega
        have a2 : ∀ k, apartS (h.length + 3) (.sl (.g (h.length + 2 + 2 + k)) 0 1 1) := fun k => by simp only [apartS]; omega
        have hc2 : ∀ m' n' : M, clean (h.length + 2 + 2) (memH (memH h m') n') = true := fun m' n' => by
          rw [memH_len, memH_len] at hc
          have := clean_both (X := []) (m := m) (n := r) (m' := m') (n' := n') (by simpa using hc) (by omega)
          simpa using this
        simp (config := { maxSteps := 10000000 }) only [run_drx, run_xd, run_xq, run_xg, run_xb, EV1, EV2, EV3, EV4, EV5, EV6, addT, istep, lenR_sl, lenR_ns, lenR_es, pickR, putD, bin1R, un1R, slcR, bnd, capsOf, fillP, S_plain, V_plain, V.cells, S_known, V_known, C.v, blk, setL, setH, eqS, eq1, cmpS, cmp1, isNil, popTo, killT, setT, leT, V.below, C.below, S_below, R.below, V.val, C.val, S_val, R.val, R.takes, vals, shows, List.any_cons, List.any_nil, unnamed, V.kill, V.names, C.names, S_names, R.names, List.set, List.replicate, ↓q_cond_t, ↓q_cond_f, if_true, if_false, reduceCtorEq, rvals, rvC, result, C_known, V.noL, C.noL, S_noL, R.noL, Option.map, true_and, and_true, ge_iff_le, gt_iff_lt, implies_true, q_ite_t, q_ite_f, beq_iff_eq, bne_iff_ne, q_ne, Nat.reduceAdd, Nat.reducePow, Int.reducePow, Nat.reduceMul, Nat.reduceSub, Nat.reduceLeDiff, Nat.reduceLT, Nat.reduceEqDiff, Int.reduceNeg, Int.reduceLT, Int.reduceLE, Int.reduceEq, Int.reduceNe, Int.reduceAdd, Int.reduceSub, Int.reduceMul, Int.reduceToNat, Int.reduceBEq, Int.reduceBNe, df32, TS8, load2G, R.lend, R.unlend, S_ren, C.ren, V.ren, app_taken, app_dropn, app_take0, app_drop0, List.take_succ_cons, List.take_zero, List.drop_succ_cons, List.drop_zero, Nat.not_lt_zero, Nat.lt_irrefl, Nat.add_sub_cancel_left, Nat.not_lt, Nat.le_add_right, Blk.ren, List.map_cons, List.map_nil, memOf_1, memOf_2, setM_1, setM_2, hL, hL2, hv, a1, a2, nt0, nd0, memH_len, hE, put, fillP, sub, List.take_succ_cons, List.take_zero, List.drop_zero, List.drop_succ_cons]
        exact ⟨hv, hc2 _ _, hv, hc2 _ _, hR⟩
      rw [if_neg h1, if_neg h2, if_neg h3, if_neg h4, if_neg h5, if_neg h6, if_neg h7, if_neg h1, if_neg h2, if_neg h3, if_neg h4, if_neg h5, if_neg h6, if_neg h7] at hR
      simp (config := { maxSteps := 10000000 }) only [run_drx, run_xd, run_xq, run_xg, run_xb, EV1, EV2, EV3, EV4, EV5, EV6, addT, istep, lenR_sl, lenR_ns, lenR_es, pickR, putD, bin1R, un1R, slcR, bnd, capsOf, fillP, S_plain, V_plain, V.cells, S_known, V_known, C.v, blk, setL, setH, eqS, eq1, cmpS, cmp1, isNil, popTo, killT, setT, leT, V.below, C.below, S_below, R.below, V.val, C.val, S_val, R.val, R.takes, vals, shows, List.any_cons, List.any_nil, unnamed, V.kill, V.names, C.names, S_names, R.names, List.set, List.replicate, ↓q_cond_t, ↓q_cond_f, if_true, if_false, reduceCtorEq, rvals, rvC, result, C_known, V.noL, C.noL, S_noL, R.noL, Option.map, true_and, and_true, ge_iff_le, gt_iff_lt, implies_true, q_ite_t, q_ite_f, beq_iff_eq, bne_iff_ne, q_ne, Nat.reduceAdd, Nat.reducePow, Int.reducePow, Nat.reduceMul, Nat.reduceSub, Nat.reduceLeDiff, Nat.reduceLT, Nat.reduceEqDiff, Int.reduceNeg, Int.reduceLT, Int.reduceLE, Int.reduceEq, Int.reduceNe, Int.reduceAdd, Int.reduceSub, Int.reduceMul, Int.reduceToNat, Int.reduceBEq, Int.reduceBNe, df32, h1, h2, h3, h4, h5, h6, h7, put, fillP, sub, List.take_succ_cons, List.take_zero, List.drop_zero, List.drop_succ_cons]
      exact hR
    · exact hS1.elim
  · exact hS1.elim
end Go.Proofs.Ytdlloccodmdnnaa

