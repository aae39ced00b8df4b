/- Law 08: sets, with more behind the two memories. -/
import Derived.Test.YtdlloccodmdnnaaZ10
import Derived.Test.YtdlloccodmdnnaaZ25
import Derived.Test.YtdlloccodmdnnaaZ15
import Derived.Test.YtdlloccodmdnnaaZ16
/- Package objs: threads, written by the code. -/
namespace Go.Proofs.Ytdlloccodmdnnaa
open Go.D
set_option linter.all false
set_option maxRecDepth 100000
set_option maxHeartbeats 8000000

theorem tset_snd' : Snd Try.prog 39 (FSpec.of tsetG) := snd_run ToT_snd mixed Try.func39 dc39 300 fun args h K hc hS => by
  obtain ⟨a, b, m, rest, rfl, H, hS1⟩ := memF_spec hS
  clear hS
  have hS := hS1
  clear hS1
  unfold tsetM at hS
  split at hS
  · rename_i x y
    obtain ⟨t, e, hrl, ⟨hup, hru⟩, hR⟩ := thF_spec hS
    clear hS
    simp only [List.cons.injEq, and_true] at e
    subst e
    simp only [spec_ok, M.thE, M.thX] at hR
    have n4 : (0 : Int) < 64 ∧ (64 : Int) ≤ 64 := by decide
    have k1 := wc_known t.rg
    have k2 : (wc t.rg).all S.noL = true := wc_all (fun _ => rfl) _
    have k3 : (wc t.rg).length = 16 := by rw [wc_len, hrl]
    simp only [Th.c]
    cases ht : otB m x 64 with
    | false =>
      simp only [ht, Bool.false_and, Bool.false_eq_true, if_false, setM_self H] at hR
      simp (config := { maxSteps := 10000000 }) only [run_drx, run_xd, run_xq, run_xg, run_xb, EV1, EV2, EV3, EV4, EV5, EV6, addT, istep, lenR_sl, lenR_ns, lenR_es, pickR, putD, bin1R, un1R, slcR, bnd, capsOf, fillP, S_plain, V_plain, V.cells, S_known, V_known, C.v, blk, setL, setH, eqS, eq1, cmpS, cmp1, isNil, popTo, killT, setT, leT, V.below, C.below, S_below, R.below, V.val, C.val, S_val, R.val, R.takes, vals, shows, List.any_cons, List.any_nil, unnamed, V.kill, V.names, C.names, S_names, R.names, List.set, List.replicate, ↓q_cond_t, ↓q_cond_f, if_true, if_false, reduceCtorEq, rvals, rvC, result, C_known, V.noL, C.noL, S_noL, R.noL, Option.map, true_and, and_true, ge_iff_le, gt_iff_lt, implies_true, q_ite_t, q_ite_f, beq_iff_eq, bne_iff_ne, q_ne, Nat.reduceAdd, Nat.reducePow, Int.reducePow, Nat.reduceMul, Nat.reduceSub, Nat.reduceLeDiff, Nat.reduceLT, Nat.reduceEqDiff, Int.reduceNeg, Int.reduceLT, Int.reduceLE, Int.reduceEq, Int.reduceNe, Int.reduceAdd, Int.reduceSub, Int.reduceMul, Int.reduceToNat, Int.reduceBEq, Int.reduceBNe, df39, ToT, otG, memF_eq H, otM, n4, setM_self H, ht, k1, k2]
      exact hR
    | true =>
      have hb := otB_iff.1 ht
      have hl := m.l
      cases hB : t.B with
      | false =>
        simp only [ht, hB, Bool.true_and, Bool.false_eq_true, if_true, if_false, setM_self H] at hR
        simp (config := { maxSteps := 10000000 }) only [run_drx, run_xd, run_xq, run_xg, run_xb, EV1, EV2, EV3, EV4, EV5, EV6, addT, istep, lenR_sl, lenR_ns, lenR_es, pickR, putD, bin1R, un1R, slcR, bnd, capsOf, fillP, S_plain, V_plain, V.cells, S_known, V_known, C.v, blk, setL, setH, eqS, eq1, cmpS, cmp1, isNil, popTo, killT, setT, leT, V.below, C.below, S_below, R.below, V.val, C.val, S_val, R.val, R.takes, vals, shows, List.any_cons, List.any_nil, unnamed, V.kill, V.names, C.names, S_names, R.names, List.set, List.replicate, ↓q_cond_t, ↓q_cond_f, if_true, if_false, reduceCtorEq, rvals, rvC, result, C_known, V.noL, C.noL, S_noL, R.noL, Option.map, true_and, and_true, ge_iff_le, gt_iff_lt, implies_true, q_ite_t, q_ite_f, beq_iff_eq, bne_iff_ne, q_ne, Nat.reduceAdd, Nat.reducePow, Int.reducePow, Nat.reduceMul, Nat.reduceSub, Nat.reduceLeDiff, Nat.reduceLT, Nat.reduceEqDiff, Int.reduceNeg, Int.reduceLT, Int.reduceLE, Int.reduceEq, Int.reduceNe, Int.reduceAdd, Int.reduceSub, Int.reduceMul, Int.reduceToNat, Int.reduceBEq, Int.reduceBNe, df39, ToT, otG, memF_eq H, otM, n4, setM_self H, ht, k1, k2, k3, thCG, thF, unwc_wc, hrl, th_eta, hup, hB, wc_take hrl, put, fillP, sub, List.take_succ_cons, List.take_zero, List.drop_zero]
        exact hR
      | true =>
        simp only [ht, hB, Bool.true_and, if_true] at hR
        obtain ⟨i, rfl⟩ : ∃ i : Nat, x = i := ⟨x.toNat, by omega⟩
        obtain ⟨o, ho⟩ : ∃ o, i + 16 = o := ⟨_, rfl⟩
        obtain ⟨o2, ho2⟩ : ∃ o, i + 32 = o := ⟨_, rfl⟩
        have e1 : IntKind.i64.wrap ((i : Int) + 16) = (o : Int) := by rw [wrap64 (by omega) (by omega)]; omega
        have e2 : IntKind.i64.wrap ((i : Int) + 32) = (o2 : Int) := by rw [wrap64 (by omega) (by omega)]; omega
        rw [show ((i : Int) + 16).toNat = o by omega, show ((i : Int) + 32).toNat = o2 by omega] at hR
        obtain ⟨u0, u1, u2, u3⟩ := Th.h_u hB
        obtain ⟨g0, g1, g2, g3⟩ := th_hd hup hB
        obtain ⟨ws, hws⟩ : ∃ ws, [t.h0, t.h1, t.bg, t.h3] = ws := ⟨_, rfl⟩
        have hwl : ws.length = 4 := by rw [← hws]; rfl
        have hwu : ∀ v, v ∈ ws → u64 v := by
          rw [← hws]
          intro v hv
          simp only [List.mem_cons, List.not_mem_nil, or_false] at hv
          rcases hv with rfl | rfl | rfl | rfl <;> assumption
        have hwc : [S.i .u64 t.h0, S.i .u64 t.h1, S.i .u64 t.bg, S.i .u64 t.h3] = wc ws := by rw [← hws]; rfl
        rw [hws] at hR
        simp (config := { maxSteps := 10000000 }) only [run_drx, run_xd, run_xq, run_xg, run_xb, EV1, EV2, EV3, EV4, EV5, EV6, addT, istep, lenR_sl, lenR_ns, lenR_es, pickR, putD, bin1R, un1R, slcR, bnd, capsOf, fillP, S_plain, V_plain, V.cells, S_known, V_known, C.v, blk, setL, setH, eqS, eq1, cmpS, cmp1, isNil, popTo, killT, setT, leT, V.below, C.below, S_below, R.below, V.val, C.val, S_val, R.val, R.takes, vals, shows, List.any_cons, List.any_nil, unnamed, V.kill, V.names, C.names, S_names, R.names, List.set, List.replicate, ↓q_cond_t, ↓q_cond_f, if_true, if_false, reduceCtorEq, rvals, rvC, result, C_known, V.noL, C.noL, S_noL, R.noL, Option.map, true_and, and_true, ge_iff_le, gt_iff_lt, implies_true, q_ite_t, q_ite_f, beq_iff_eq, bne_iff_ne, q_ne, Nat.reduceAdd, Nat.reducePow, Int.reducePow, Nat.reduceMul, Nat.reduceSub, Nat.reduceLeDiff, Nat.reduceLT, Nat.reduceEqDiff, Int.reduceNeg, Int.reduceLT, Int.reduceLE, Int.reduceEq, Int.reduceNe, Int.reduceAdd, Int.reduceSub, Int.reduceMul, Int.reduceToNat, Int.reduceBEq, Int.reduceBNe, df39, ToT, otG, memF_eq H, otM, n4, setM_self H, ht, k1, k2, k3, thCG, thF, unwc_wc, hrl, th_eta, hup, hB, g0, g1, g2, g3, wc_take hrl, put, fillP, sub, List.take_succ_cons, List.take_zero, List.drop_zero]
        refine loop_rule (α := Nat) [9, 10, 25, 26, 27, 28, 29, 30, 31, 32, 33, 34, 35, 36] (fun q => [(24, .agg (wc ws)), (25, .s (.i .i64 q))]) (fun q => [⟨.rw, t.c, 30⟩, ⟨.rw, wc ws, 4⟩]) (fun q => setM h a b (m.wrs o ws q)) (fun q => q ≤ 4) (fun q => 4 - q) 0 (by omega) ?_ ?_
        · rw [M.wrs, setM_self H, ← hwc]
          refine Wk.same rfl rfl ?_
          simp (config := { maxSteps := 10000000 }) only [run_drx, run_xd, run_xq, run_xg, run_xb, EV1, EV2, EV3, EV4, EV5, EV6, addT, istep, lenR_sl, lenR_ns, lenR_es, pickR, putD, bin1R, un1R, slcR, bnd, capsOf, fillP, S_plain, V_plain, V.cells, S_known, V_known, C.v, blk, setL, setH, eqS, eq1, cmpS, cmp1, isNil, popTo, killT, setT, leT, V.below, C.below, S_below, R.below, V.val, C.val, S_val, R.val, R.takes, vals, shows, List.any_cons, List.any_nil, unnamed, V.kill, V.names, C.names, S_names, R.names, List.set, List.replicate, ↓q_cond_t, ↓q_cond_f, if_true, if_false, reduceCtorEq, rvals, rvC, result, C_known, V.noL, C.noL, S_noL, R.noL, Option.map, true_and, and_true, ge_iff_le, gt_iff_lt, implies_true, q_ite_t, q_ite_f, beq_iff_eq, bne_iff_ne, q_ne, Nat.reduceAdd, Nat.reducePow, Int.reducePow, Nat.reduceMul, Nat.reduceSub, Nat.reduceLeDiff, Nat.reduceLT, Nat.reduceEqDiff, Int.reduceNeg, Int.reduceLT, Int.reduceLE, Int.reduceEq, Int.reduceNe, Int.reduceAdd, Int.reduceSub, Int.reduceMul, Int.reduceToNat, Int.reduceBEq, Int.reduceBNe, Int.natCast_zero]
        · rintro X q hq IH
          rcases Nat.lt_or_ge q 4 with h1 | h1
          · have d1 : ((q : Int) < 4) := by omega
            have d3 : (0 : Int) ≤ q := by omega
            have d4 : IntKind.i64.wrap ((q : Int) + 1) = ((q + 1 : Nat) : Int) := by rw [wrap64 (by omega) (by omega)]; omega
            have w1 : IntKind.i64.wrap ((o : Int) + q) = ((o + q : Nat) : Int) := by rw [wrap64 (by omega) (by omega)]; omega
            have h0 : m.has ((o + q : Nat) : Int) 1 = true := M.has_of (by omega)
            have g := wc_get (w := ws) (i := q) (by omega)
            have hu : u64 (nth 0 ws q) := by rw [nth_eq (by omega)]; exact hwu _ (List.getElem_mem _)
            have j1 : (wc ws).length = 4 := by rw [wc_len, hwl]
            refine run_sound (Tab.ok_Γ _) 100 _ _ _ _ ?_
            simp (config := { maxSteps := 10000000 }) only [run_drx, run_xd, run_xq, run_xg, run_xb, EV1, EV2, EV3, EV4, EV5, EV6, addT, istep, lenR_sl, lenR_ns, lenR_es, pickR, putD, bin1R, un1R, slcR, bnd, capsOf, fillP, S_plain, V_plain, V.cells, S_known, V_known, C.v, blk, setL, setH, eqS, eq1, cmpS, cmp1, isNil, popTo, killT, setT, leT, V.below, C.below, S_below, R.below, V.val, C.val, S_val, R.val, R.takes, vals, shows, List.any_cons, List.any_nil, unnamed, V.kill, V.names, C.names, S_names, R.names, List.set, List.replicate, ↓q_cond_t, ↓q_cond_f, if_true, if_false, reduceCtorEq, rvals, rvC, result, C_known, V.noL, C.noL, S_noL, R.noL, Option.map, true_and, and_true, ge_iff_le, gt_iff_lt, implies_true, q_ite_t, q_ite_f, beq_iff_eq, bne_iff_ne, q_ne, Nat.reduceAdd, Nat.reducePow, Int.reducePow, Nat.reduceMul, Nat.reduceSub, Nat.reduceLeDiff, Nat.reduceLT, Nat.reduceEqDiff, Int.reduceNeg, Int.reduceLT, Int.reduceLE, Int.reduceEq, Int.reduceNe, Int.reduceAdd, Int.reduceSub, Int.reduceMul, Int.reduceToNat, Int.reduceBEq, Int.reduceBNe, ToT, e1, d1, d3, d4, w1, writeG, memF_set H, writeM, M.wrs_has, h0, h1, g, hu, j1, Int.toNat_natCast, wc_known]
            exact IH (q + 1) _ (by omega) (by omega) (Wk.same rfl rfl (by simp (config := { maxSteps := 10000000 }) only [run_drx, run_xd, run_xq, run_xg, run_xb, EV1, EV2, EV3, EV4, EV5, EV6, addT, istep, lenR_sl, lenR_ns, lenR_es, pickR, putD, bin1R, un1R, slcR, bnd, capsOf, fillP, S_plain, V_plain, V.cells, S_known, V_known, C.v, blk, setL, setH, eqS, eq1, cmpS, cmp1, isNil, popTo, killT, setT, leT, V.below, C.below, S_below, R.below, V.val, C.val, S_val, R.val, R.takes, vals, shows, List.any_cons, List.any_nil, unnamed, V.kill, V.names, C.names, S_names, R.names, List.set, List.replicate, ↓q_cond_t, ↓q_cond_f, if_true, if_false, reduceCtorEq, rvals, rvC, result, C_known, V.noL, C.noL, S_noL, R.noL, Option.map, true_and, and_true, ge_iff_le, gt_iff_lt, implies_true, q_ite_t, q_ite_f, beq_iff_eq, bne_iff_ne, q_ne, Nat.reduceAdd, Nat.reducePow, Int.reducePow, Nat.reduceMul, Nat.reduceSub, Nat.reduceLeDiff, Nat.reduceLT, Nat.reduceEqDiff, Int.reduceNeg, Int.reduceLT, Int.reduceLE, Int.reduceEq, Int.reduceNe, Int.reduceAdd, Int.reduceSub, Int.reduceMul, Int.reduceToNat, Int.reduceBEq, Int.reduceBNe]))
          · have : q = 4 := by omega
            subst this
            clear IH
            simp only [Th.c]
            refine run_sound (Tab.ok_Γ _) 100 _ _ _ _ ?_
            simp (config := { maxSteps := 10000000 }) only [run_drx, run_xd, run_xq, run_xg, run_xb, EV1, EV2, EV3, EV4, EV5, EV6, addT, istep, lenR_sl, lenR_ns, lenR_es, pickR, putD, bin1R, un1R, slcR, bnd, capsOf, fillP, S_plain, V_plain, V.cells, S_known, V_known, C.v, blk, setL, setH, eqS, eq1, cmpS, cmp1, isNil, popTo, killT, setT, leT, V.below, C.below, S_below, R.below, V.val, C.val, S_val, R.val, R.takes, vals, shows, List.any_cons, List.any_nil, unnamed, V.kill, V.names, C.names, S_names, R.names, List.set, List.replicate, ↓q_cond_t, ↓q_cond_f, if_true, if_false, reduceCtorEq, rvals, rvC, result, C_known, V.noL, C.noL, S_noL, R.noL, Option.map, true_and, and_true, ge_iff_le, gt_iff_lt, implies_true, q_ite_t, q_ite_f, beq_iff_eq, bne_iff_ne, q_ne, Nat.reduceAdd, Nat.reducePow, Int.reducePow, Nat.reduceMul, Nat.reduceSub, Nat.reduceLeDiff, Nat.reduceLT, Nat.reduceEqDiff, Int.reduceNeg, Int.reduceLT, Int.reduceLE, Int.reduceEq, Int.reduceNe, Int.reduceAdd, Int.reduceSub, Int.reduceMul, Int.reduceToNat, Int.reduceBEq, Int.reduceBNe, Int.lt_irrefl, k1, k2, k3, wc_take hrl, sub, List.take_succ_cons, List.take_zero, List.drop_zero, List.drop_succ_cons]
            refine loop_rule (α := Nat) [11, 12, 39, 40, 41, 42, 43, 44, 45, 46, 47, 48, 49, 50] (fun q => [(38, .agg (wc t.rg)), (39, .s (.i .i64 q))]) (fun q => [⟨.rw, t.c, 30⟩, ⟨.rw, wc ws, 4⟩]) (fun q => setM h a b ((m.wrs o ws 4).wrs o2 t.rg q)) (fun q => q ≤ 16) (fun q => 16 - q) 0 (by omega) ?_ ?_
            · refine Wk.same rfl rfl ?_
              simp (config := { maxSteps := 10000000 }) only [run_drx, run_xd, run_xq, run_xg, run_xb, EV1, EV2, EV3, EV4, EV5, EV6, addT, istep, lenR_sl, lenR_ns, lenR_es, pickR, putD, bin1R, un1R, slcR, bnd, capsOf, fillP, S_plain, V_plain, V.cells, S_known, V_known, C.v, blk, setL, setH, eqS, eq1, cmpS, cmp1, isNil, popTo, killT, setT, leT, V.below, C.below, S_below, R.below, V.val, C.val, S_val, R.val, R.takes, vals, shows, List.any_cons, List.any_nil, unnamed, V.kill, V.names, C.names, S_names, R.names, List.set, List.replicate, ↓q_cond_t, ↓q_cond_f, if_true, if_false, reduceCtorEq, rvals, rvC, result, C_known, V.noL, C.noL, S_noL, R.noL, Option.map, true_and, and_true, ge_iff_le, gt_iff_lt, implies_true, q_ite_t, q_ite_f, beq_iff_eq, bne_iff_ne, q_ne, Nat.reduceAdd, Nat.reducePow, Int.reducePow, Nat.reduceMul, Nat.reduceSub, Nat.reduceLeDiff, Nat.reduceLT, Nat.reduceEqDiff, Int.reduceNeg, Int.reduceLT, Int.reduceLE, Int.reduceEq, Int.reduceNe, Int.reduceAdd, Int.reduceSub, Int.reduceMul, Int.reduceToNat, Int.reduceBEq, Int.reduceBNe, Int.natCast_zero]
            · rintro X q hq IH
              rcases Nat.lt_or_ge q 16 with h1 | h1
              · have d1 : ((q : Int) < 16) := by omega
                have d3 : (0 : Int) ≤ q := by omega
                have d4 : IntKind.i64.wrap ((q : Int) + 1) = ((q + 1 : Nat) : Int) := by rw [wrap64 (by omega) (by omega)]; omega
                have w1 : IntKind.i64.wrap ((o2 : Int) + q) = ((o2 + q : Nat) : Int) := by rw [wrap64 (by omega) (by omega)]; omega
                have h0 : m.has ((o2 + q : Nat) : Int) 1 = true := M.has_of (by omega)
                have g := wc_get (w := t.rg) (i := q) (by omega)
                have hu : u64 (nth 0 t.rg q) := by rw [nth_eq (by omega)]; exact hru _ (List.getElem_mem _)
                refine run_sound (Tab.ok_Γ _) 100 _ _ _ _ ?_
                simp (config := { maxSteps := 10000000 }) only [run_drx, run_xd, run_xq, run_xg, run_xb, EV1, EV2, EV3, EV4, EV5, EV6, addT, istep, lenR_sl, lenR_ns, lenR_es, pickR, putD, bin1R, un1R, slcR, bnd, capsOf, fillP, S_plain, V_plain, V.cells, S_known, V_known, C.v, blk, setL, setH, eqS, eq1, cmpS, cmp1, isNil, popTo, killT, setT, leT, V.below, C.below, S_below, R.below, V.val, C.val, S_val, R.val, R.takes, vals, shows, List.any_cons, List.any_nil, unnamed, V.kill, V.names, C.names, S_names, R.names, List.set, List.replicate, ↓q_cond_t, ↓q_cond_f, if_true, if_false, reduceCtorEq, rvals, rvC, result, C_known, V.noL, C.noL, S_noL, R.noL, Option.map, true_and, and_true, ge_iff_le, gt_iff_lt, implies_true, q_ite_t, q_ite_f, beq_iff_eq, bne_iff_ne, q_ne, Nat.reduceAdd, Nat.reducePow, Int.reducePow, Nat.reduceMul, Nat.reduceSub, Nat.reduceLeDiff, Nat.reduceLT, Nat.reduceEqDiff, Int.reduceNeg, Int.reduceLT, Int.reduceLE, Int.reduceEq, Int.reduceNe, Int.reduceAdd, Int.reduceSub, Int.reduceMul, Int.reduceToNat, Int.reduceBEq, Int.reduceBNe, ToT, e2, d1, d3, d4, w1, writeG, memF_set H, writeM, M.wrs_has, h0, h1, g, hu, k1, k3, Int.toNat_natCast]
                exact IH (q + 1) _ (by omega) (by omega) (Wk.same rfl rfl (by simp (config := { maxSteps := 10000000 }) only [run_drx, run_xd, run_xq, run_xg, run_xb, EV1, EV2, EV3, EV4, EV5, EV6, addT, istep, lenR_sl, lenR_ns, lenR_es, pickR, putD, bin1R, un1R, slcR, bnd, capsOf, fillP, S_plain, V_plain, V.cells, S_known, V_known, C.v, blk, setL, setH, eqS, eq1, cmpS, cmp1, isNil, popTo, killT, setT, leT, V.below, C.below, S_below, R.below, V.val, C.val, S_val, R.val, R.takes, vals, shows, List.any_cons, List.any_nil, unnamed, V.kill, V.names, C.names, S_names, R.names, List.set, List.replicate, ↓q_cond_t, ↓q_cond_f, if_true, if_false, reduceCtorEq, rvals, rvC, result, C_known, V.noL, C.noL, S_noL, R.noL, Option.map, true_and, and_true, ge_iff_le, gt_iff_lt, implies_true, q_ite_t, q_ite_f, beq_iff_eq, bne_iff_ne, q_ne, Nat.reduceAdd, Nat.reducePow, Int.reducePow, Nat.reduceMul, Nat.reduceSub, Nat.reduceLeDiff, Nat.reduceLT, Nat.reduceEqDiff, Int.reduceNeg, Int.reduceLT, Int.reduceLE, Int.reduceEq, Int.reduceNe, Int.reduceAdd, Int.reduceSub, Int.reduceMul, Int.reduceToNat, Int.reduceBEq, Int.reduceBNe]))
              · have : q = 16 := by omega
                subst this
                clear IH
                refine run_sound (Tab.ok_Γ _) 100 _ _ _ _ ?_
                simp (config := { maxSteps := 10000000 }) only [run_drx, run_xd, run_xq, run_xg, run_xb, EV1, EV2, EV3, EV4, EV5, EV6, addT, istep, lenR_sl, lenR_ns, lenR_es, pickR, putD, bin1R, un1R, slcR, bnd, capsOf, fillP, S_plain, V_plain, V.cells, S_known, V_known, C.v, blk, setL, setH, eqS, eq1, cmpS, cmp1, isNil, popTo, killT, setT, leT, V.below, C.below, S_below, R.below, V.val, C.val, S_val, R.val, R.takes, vals, shows, List.any_cons, List.any_nil, unnamed, V.kill, V.names, C.names, S_names, R.names, List.set, List.replicate, ↓q_cond_t, ↓q_cond_f, if_true, if_false, reduceCtorEq, rvals, rvC, result, C_known, V.noL, C.noL, S_noL, R.noL, Option.map, true_and, and_true, ge_iff_le, gt_iff_lt, implies_true, q_ite_t, q_ite_f, beq_iff_eq, bne_iff_ne, q_ne, Nat.reduceAdd, Nat.reducePow, Int.reducePow, Nat.reduceMul, Nat.reduceSub, Nat.reduceLeDiff, Nat.reduceLT, Nat.reduceEqDiff, Int.reduceNeg, Int.reduceLT, Int.reduceLE, Int.reduceEq, Int.reduceNe, Int.reduceAdd, Int.reduceSub, Int.reduceMul, Int.reduceToNat, Int.reduceBEq, Int.reduceBNe, Int.lt_irrefl]
                exact hR
  · exact hS.elim
end Go.Proofs.Ytdlloccodmdnnaa

/- Law 08: two memories; sets. -/
namespace Go.Proofs.Ytdlloccodmdnnaa
open Go.D
set_option linter.all false
set_option maxRecDepth 100000
set_option maxHeartbeats 8000000

open Classical in
noncomputable def twoOf (H : List Blk) (a c : Nat) : Option (List Blk × M × M) := if hx : ∃ x : List Blk × M × M, H = memH (memH x.1 x.2.1) x.2.2 ∧ a = x.1.length ∧ c = x.1.length + 2 then some (Classical.choose hx) else none
structure Oo where
  wh : Int
  ad : Int
  i : Int
  w : Int
  t : Th
  q : Qu
  s : Si
  e : En
  tb : Int
  hl : t.rg.length = 16
def Oo.cl (o : Oo) : List S := .i .i64 o.wh :: .i .i64 o.ad :: .i .i64 o.i :: .i .u64 o.w :: (o.t.c ++ (o.q.cl ++ (o.s.cl ++ (o.e.c ++ [.i .i64 o.tb]))))
theorem th_clen {t : Th} (h : t.rg.length = 16) : t.c.length = 30 := by simp [Th.c, wc_len, h]
theorem Oo.cl_len (o : Oo) : o.cl.length = 47 := by
  simp only [Oo.cl, List.length_cons, List.length_append, th_clen o.hl, Qu.cl, Si.cl, En.c, List.length_nil]
theorem th_inj {t k : Th} (h : t.c = k.c) : t = k := by
  obtain ⟨a, b, c, d, e, f, g, i, j, k, l, n, o, p, r⟩ := t
  simp only [Th.c, List.cons.injEq, S.i.injEq, S.b.injEq, true_and] at h
  obtain ⟨rfl, rfl, rfl, rfl, rfl, rfl, rfl, rfl, rfl, rfl, rfl, rfl, rfl, rfl, h⟩ := h
  rw [wc_inj h]
theorem Oo.inj {o p : Oo} (h : o.cl = p.cl) : o = p := by
  obtain ⟨a, b, c, d, t, q, s, e, n, hl⟩ := o
  obtain ⟨a', b', c', d', t', q', s', e', n', hl'⟩ := p
  simp only [Oo.cl, List.cons.injEq, S.i.injEq, true_and] at h
  obtain ⟨rfl, rfl, rfl, rfl, h⟩ := h
  obtain ⟨h1, h2⟩ := List.append_inj h (by rw [th_clen hl, th_clen hl'])
  have := th_inj h1
  subst this
  obtain ⟨s1, s2, s3⟩ := q
  obtain ⟨k1, k2, k3⟩ := q'
  obtain ⟨x1, x2, x3, x4, x5⟩ := s
  obtain ⟨y1, y2, y3, y4, y5⟩ := s'
  obtain ⟨z1, z2, z3, z4⟩ := e
  obtain ⟨w1, w2, w3, w4⟩ := e'
  simp only [Qu.cl, Si.cl, En.c, List.cons_append, List.nil_append, List.cons.injEq, S.i.injEq, S.b.injEq, true_and, and_true] at h2
  obtain ⟨rfl, rfl, rfl, rfl, rfl, rfl, rfl, rfl, rfl, rfl, rfl, rfl, rfl⟩ := h2
  rfl
instance : Cells Oo.cl := ⟨⟨47, Oo.cl_len⟩, fun x y e => Oo.inj e⟩
def Oo.u (o : Oo) : Prop := u64 o.w ∧ (o.t.up ∧ ∀ v, v ∈ o.t.rg → u64 v) ∧ o.q.up ∧ o.s.up
open Classical in
noncomputable def ooOf (cs : List S) : Option Oo := if hx : ∃ o : Oo, cs = o.cl then some (Classical.choose hx) else none
theorem ooOf_eq (o : Oo) : ooOf o.cl = some o := by
  have hx : ∃ p : Oo, o.cl = p.cl := ⟨o, rfl⟩
  unfold ooOf
  rw [dif_pos hx, ← Oo.inj (Classical.choose_spec hx)]
theorem ooOf_some {cs : List S} {o : Oo} (e : ooOf cs = some o) : cs = o.cl := by
  unfold ooOf at e
  split at e
  · rename_i hx
    have := Classical.choose_spec hx
    rw [Option.some.injEq] at e
    rwa [e] at this
  · cases e
def M.oX (m : M) (o : Oo) : M :=
  if o.wh = 1 then m.thX o.ad o.t else if o.wh = 2 then m.rsX o.ad o.i o.w else if o.wh = 3 then m.qsX o.ad o.q else if o.wh = 4 then m.ssX o.ad o.s
  else if o.wh = 5 then m.esX o.ad o.i o.e else if o.wh = 6 then m.tsX o.ad o.i o.tb else if o.wh = 7 then m.loadX o.ad [o.w] else m
section
variable {m r : M} (hw : m.w = r.w)
include hw
theorem at_w (a : Int) : m.at a = r.at a := by simp only [M.at, hw]
end
theorem rg16 {L : List Int} (h : L.length = 16) : ∃ a0 a1 a2 a3 a4 a5 a6 a7 a8 a9 b0 b1 b2 b3 b4 b5, L = [a0, a1, a2, a3, a4, a5, a6, a7, a8, a9, b0, b1, b2, b3, b4, b5] := by
  match L, h with
  | [a0, a1, a2, a3, a4, a5, a6, a7, a8, a9, b0, b1, b2, b3, b4, b5], _ => exact ⟨_, _, _, _, _, _, _, _, _, _, _, _, _, _, _, _, rfl⟩
end Go.Proofs.Ytdlloccodmdnnaa

/- Law 08: asks. -/
namespace Go.Proofs.Ytdlloccodmdnnaa
open Go.D
set_option linter.all false
set_option maxRecDepth 100000
set_option maxHeartbeats 8000000

theorem tgXC_w (m : M) (a : Int) : (m.tgXC a).w = m.w := by
  unfold M.tgXC; split
  · split
    · rw [M.tks_w, M.tks_w]
    · rw [M.tks_w]
  · rfl
theorem rgX_w (m : M) (a i : Int) : (m.rgX a i).w = m.w := by unfold M.rgX; cases plE m a 64 i 15 == 0 <;> rfl
theorem qgX_w (m : M) (a : Int) : (m.qgX a).w = m.w := by unfold M.qgX; split <;> rfl
theorem sgX_w (m : M) (a : Int) : (m.sgX a).w = m.w := by unfold M.sgX; split <;> rfl
theorem plX_w (m : M) (a i : Int) : (m.plX a i).w = m.w := by unfold M.plX; cases plE m a 8 i 7 == 0 <;> rfl
section
variable {m r : M} (hw : m.w = r.w)
include hw
end
theorem tgV_len (m : M) (a : Int) : (m.tgV a).rg.length = 16 := by
  unfold M.tgV
  split
  · rename_i h
    rw [Bool.and_eq_true, otB_iff] at h
    exact M.part_len (by omega)
  · rfl
end Go.Proofs.Ytdlloccodmdnnaa

/- Law 08: awake. -/
namespace Go.Proofs.Ytdlloccodmdnnaa
open Go.D
set_option linter.all false
set_option maxRecDepth 100000
set_option maxHeartbeats 8000000

def awake8G : List V → List Blk → Res
  | [], h => .ok (.s (.b true)) [] h
  | _, _ => .bad
noncomputable def TAw : Tab := addT 29 newM (addT 26 dumpG (addT 27 sameWG (addT 39 tsetG (addT 42 qsetG (addT 43 ssetG (addT 45 rtsetG (addT 44 etsetG (addT 37 rtgetG (addT 33 tcG (noT))))))))))
theorem TAw_snd : TAw.Snd Try.prog := addT_snd ok29 new_snd (addT_snd ok26 mdump_snd (addT_snd ok27 sameW_snd (addT_snd ok39 tset_snd' (addT_snd ok42 qset_snd (addT_snd ok43 sset_snd (addT_snd ok45 rtset_snd (addT_snd ok44 etset_snd (addT_snd ok37 rtget_snd (addT_snd ok33 tc_snd ((noT_snd _)))))))))))
def thA : Th := ⟨1, 255, 5, true, 0, 0, 1024, 0, false, false, 2048, 0, 0, 0, List.replicate 16 0⟩
theorem thA_B : thA.B = true := by decide
theorem thA_h : thA.h0 = 28665 ∧ thA.h1 = 576465150349934592 := by decide
theorem thA_u : thA.up ∧ ∀ v, v ∈ thA.rg → u64 v := ⟨by unfold Th.up sml thA; decide, fun v hv => by rw [List.eq_of_mem_replicate hv]; exact u64_0⟩
theorem M.thX_len (m : M) (a : Int) (t : Th) : (m.thX a t).w.length = m.w.length := by
  unfold M.thX; split
  · rw [M.wrs_len, M.wrs_len]
  · rfl
theorem M.qsX_len (m : M) (a : Int) (q : Qu) : (m.qsX a q).w.length = m.w.length := by
  unfold M.qsX; split
  · rw [M.tick_len, M.put_len]
  · rfl
theorem M.ssX_len (m : M) (a : Int) (q : Si) : (m.ssX a q).w.length = m.w.length := by
  unfold M.ssX; split
  · rw [M.tick_len, M.put_len, M.tick_len, M.put_len]
  · rfl
theorem M.tsX_len (m : M) (a i n : Int) : (m.tsX a i n).w.length = m.w.length := by
  unfold M.tsX; cases (plE m a 8 i 7 == 0 && rootB n)
  · rfl
  · rw [cond_true, M.tick_len, M.put_len]
theorem aw_1 {m : M} (hl : m.w.length = 4096) : m.thE 1088 thA = 0 ∧ ((m.thX 1088 thA).w.drop 1104).take 2 = [28665, 576465150349934592] := by
  have ht : otB m 1088 64 = true := otB_iff.2 (by omega)
  refine ⟨by simp only [M.thE, ht, thA_B, if_true], ?_⟩
  refine M.part_ext (by rw [M.thX_len, hl]; decide) rfl ?_
  have hu : ∀ v, v ∈ [thA.h0, thA.h1, thA.bg, thA.h3] → u64 v := by
    obtain ⟨u0, u1, u2, u3⟩ := Th.h_u thA_B
    intro v hv
    simp only [List.mem_cons, List.not_mem_nil, or_false] at hv
    rcases hv with rfl | rfl | rfl | rfl <;> assumption
  intro i hi
  simp only [M.thX, ht, thA_B, Bool.true_and, if_true]
  rw [M.wrs_at _ _ _ thA_u.2 _ 16 (by decide) (by rw [M.wrs_len, hl]; decide), if_neg (by omega), M.wrs_at _ _ _ hu _ 4 (by decide) (by rw [hl]; decide), if_pos (by omega)]
  obtain ⟨h1, h2⟩ := thA_h
  rw [h1, h2]
  match i, hi with
  | 0, _ => rfl
  | 1, _ => rfl
theorem aw_2 {m : M} (hl : m.w.length = 4096) : m.qsE 1024 ⟨2, 1088, 1152⟩ = 0 ∧ ((m.qsX 1024 ⟨2, 1088, 1152⟩).w.drop 1024).take 1 = [301994242] := by
  have ht : otB m 1024 4 = true := otB_iff.2 (by omega)
  have hB : (Qu.B ⟨2, 1088, 1152⟩) = true := by decide
  refine ⟨by simp only [M.qsE, ht, hB, if_true], ?_⟩
  refine M.part_ext (by rw [M.qsX_len, hl]; decide) rfl ?_
  intro i hi
  have : i = 0 := by omega
  subst this
  simp only [M.qsX, ht, hB, Bool.true_and, if_true]
  rw [M.at_tick, M.at_put, if_pos (by omega)]
  rfl
theorem aw_3 {m : M} (hl : m.w.length = 4096) : m.ssE 1032 ⟨2, 0, 0, 5, 1088⟩ = 0 ∧ ((m.ssX 1032 ⟨2, 0, 0, 5, 1088⟩).w.drop 1032).take 2 = [2, 292057776133] := by
  have ht : otB m 1032 8 = true := otB_iff.2 (by omega)
  have hB : (Si.B ⟨2, 0, 0, 5, 1088⟩) = true := by decide
  refine ⟨by simp only [M.ssE, ht, hB, if_true], ?_⟩
  refine M.part_ext (by rw [M.ssX_len, hl]; decide) rfl ?_
  intro i hi
  simp only [M.ssX, ht, hB, Bool.true_and, if_true]
  rw [M.at_tick, M.at_put, M.tick_len, M.put_len, hl]
  match i, hi with
  | 0, _ =>
    rw [if_neg (by decide), M.at_tick, M.at_put, if_pos (by omega)]
    rfl
  | 1, _ =>
    rw [if_pos (by decide)]
    rfl
theorem aw_4 {m : M} (hl : m.w.length = 4096) : m.tsE 1040 3 2048 = 0 ∧ (m.tsX 1040 3 2048).rtE 1040 3 = 0 ∧ (m.tsX 1040 3 2048).rtV 1040 3 = 2048 := by
  have ht : otB m 1040 8 = true := otB_iff.2 (by omega)
  have hi : in3 3 0 7 = true := by decide
  have hp : plE m 1040 8 3 7 = 0 := by simp only [plE, ht, hi, cond_true]
  have hr : rootB 2048 = true := by decide
  have hl2 := M.tsX_len m 1040 3 2048
  have hp2 : plE (m.tsX 1040 3 2048) 1040 8 3 7 = 0 := by
    have ht : otB (m.tsX 1040 3 2048) 1040 8 = true := otB_iff.2 (by omega)
    simp only [plE, ht, hi, cond_true]
  have hat : (m.tsX 1040 3 2048).at (1040 + 3) = 2048 := by
    simp only [M.tsX, hp, hr, show ((0 : Int) == 0) = true from rfl, Bool.true_and, cond_true]
    rw [M.at_tick, M.at_put, if_pos (by omega)]
    rfl
  have hk : rtOk 2048 = true := by decide
  exact ⟨by simp only [M.tsE, hp, hr, show ((0 : Int) == 0) = true from rfl, cond_true], by simp only [M.rtE, hp2, hat, hk, show ((0 : Int) == 0) = true from rfl, cond_true], by simp only [M.rtV, hp2, hat, hk, show ((0 : Int) == 0) = true from rfl, cond_true]⟩
theorem aw_5 {m : M} (hl : m.w.length = 4096) : m.tgE 1056 = 20 ∧ m.tgV 1056 = thZ ∧ m.tgXC 1056 = m ∧ m.esE 1048 8 enZ = 1 ∧ m.esX 1048 8 enZ = m := by
  have ht : otB m 1056 64 = false := by rw [Bool.eq_false_iff, ne_eq, otB_iff]; omega
  have ht2 : otB m 1048 8 = true := otB_iff.2 (by omega)
  have hp : plE m 1048 8 8 7 = 1 := by simp only [plE, ht2, cond_true]; rfl
  refine ⟨?_, ?_, ?_, ?_, ?_⟩
  · simp only [M.tgE, ht, Bool.false_eq_true, if_false]
  · simp only [M.tgV, ht, Bool.false_and, Bool.false_eq_true, if_false]
  · simp only [M.tgXC, ht, Bool.false_eq_true, if_false]
  · simp only [M.esE, hp]; rfl
  · simp only [M.esX, hp]; rfl
theorem awake8_snd : Snd Try.prog 28 (FSpec.of awake8G) := snd_cut TAw_snd mixed Try.func28 dc28 400 fun args h K hc hS => by
  unfold awake8G at hS
  split at hS
  · simp only [spec_ok] at hS
    have l0 : (M.zero 12).w.length = 4096 := M.zero_len 12
    obtain ⟨m0, hm⟩ : ∃ m, M.zero 12 = m := ⟨_, rfl⟩
    rw [hm] at l0
    obtain ⟨a1, a2⟩ := aw_1 l0
    have l1 := M.thX_len m0 1088 thA
    obtain ⟨m1, h1⟩ : ∃ m, m0.thX 1088 thA = m := ⟨_, rfl⟩
    rw [h1] at a2 l1
    rw [l0] at l1
    obtain ⟨b1, b2⟩ := aw_2 l1
    have l2 := M.qsX_len m1 1024 ⟨2, 1088, 1152⟩
    obtain ⟨m2, h2⟩ : ∃ m, m1.qsX 1024 ⟨2, 1088, 1152⟩ = m := ⟨_, rfl⟩
    rw [h2] at b2 l2
    rw [l1] at l2
    obtain ⟨c1, c2'⟩ := aw_3 l2
    have l3 := M.ssX_len m2 1032 ⟨2, 0, 0, 5, 1088⟩
    obtain ⟨m3, h3⟩ : ∃ m, m2.ssX 1032 ⟨2, 0, 0, 5, 1088⟩ = m := ⟨_, rfl⟩
    rw [h3] at c2' l3
    rw [l2] at l3
    obtain ⟨d1, d2, d3⟩ := aw_4 l3
    have l4 := M.tsX_len m3 1040 3 2048
    obtain ⟨m4, h4⟩ : ∃ m, m3.tsX 1040 3 2048 = m := ⟨_, rfl⟩
    rw [h4] at d2 d3 l4
    rw [l3] at l4
    have l5 := congrArg List.length (plX_w m4 1040 3)
    obtain ⟨m5, h5⟩ : ∃ m, m4.plX 1040 3 = m := ⟨_, rfl⟩
    rw [h5, l4] at l5
    obtain ⟨e1, e2, e3, e4, e5⟩ := aw_5 l5
    have hd1 : m1.has 1104 2 = true := M.has_of (by omega)
    have hd2 : m2.has 1024 1 = true := M.has_of (by omega)
    have hd3 : m3.has 1032 2 = true := M.has_of (by omega)
    have hu := thA_u
    simp only [thA, List.replicate] at a1 h1 hu
    simp only [enZ] at e4 e5
    simp (config := { maxSteps := 10000000 }) only [run_drx, run_xd, run_xq, run_xg, run_xb, EV1, EV2, EV3, EV4, EV5, EV6, addT, istep, lenR_sl, lenR_ns, lenR_es, pickR, putD, bin1R, un1R, slcR, bnd, capsOf, fillP, S_plain, V_plain, V.cells, S_known, V_known, C.v, blk, setL, setH, eqS, eq1, cmpS, cmp1, isNil, popTo, killT, setT, leT, V.below, C.below, S_below, R.below, V.val, C.val, S_val, R.val, R.takes, vals, shows, List.any_cons, List.any_nil, unnamed, V.kill, V.names, C.names, S_names, R.names, List.set, List.replicate, ↓q_cond_t, ↓q_cond_f, if_true, if_false, reduceCtorEq, rvals, rvC, result, C_known, V.noL, C.noL, S_noL, R.noL, Option.map, true_and, and_true, ge_iff_le, gt_iff_lt, implies_true, q_ite_t, q_ite_f, beq_iff_eq, bne_iff_ne, q_ne, Nat.reduceAdd, Nat.reducePow, Int.reducePow, Nat.reduceMul, Nat.reduceSub, Nat.reduceLeDiff, Nat.reduceLT, Nat.reduceEqDiff, Int.reduceNeg, Int.reduceLT, Int.reduceLE, Int.reduceEq, Int.reduceNe, Int.reduceAdd, Int.reduceSub, Int.reduceMul, Int.reduceToNat, Int.reduceBEq, Int.reduceBNe, df28, TAw, newM, memF_new, memF_newA, tsetG, tsetM, thF, unwc_cons, unwc_nil, List.length_cons, List.length_nil, qsetG, qsetM, quF, ssetG, ssetM, siF, rtsetG, rtsetM, etsetG, etsetM, enF, rtgetG, rtgetM, tcG, tcM, dumpG, dumpM, hm, h1, h2, h3, h4, h5, a1, b1, c1, d1, d2, d3, e1, e2, e3, e4, e5, hd1, hd2, hd3, thZ_c, Th.up, Qu.up, Si.up, sml, put, fillP, sub, List.take_succ_cons, List.take_zero, List.drop_zero]
    refine ⟨hu.2, fun c _ c1 _ c2 _ => ?_⟩
    rw [a2, b2, c2']
    have q1 : ∀ X : List Blk, listOf (memH h m5 ++ (⟨.rw, wc [28665, 576465150349934592], c⟩ :: X)) (.sl (.g (h.length + 2)) 0 2 c) = some [28665, 576465150349934592] := fun X => listOf_at (st := .rw) (room := c) (by rw [mg0]; rfl) (fun x => BK.noConfusion x) rfl
    have q2 : ∀ (B : Blk) (X : List Blk), listOf (memH h m5 ++ (B :: ⟨.rw, wc [301994242], c1⟩ :: X)) (.sl (.g (h.length + 2 + 1)) 0 1 c1) = some [301994242] := fun B X => listOf_at (st := .rw) (room := c1) (by rw [mg1]; rfl) (fun x => BK.noConfusion x) rfl
    have q3 : ∀ (B B2 : Blk) (X : List Blk), listOf (memH h m5 ++ (B :: B2 :: ⟨.rw, wc [2, 292057776133], c2⟩ :: X)) (.sl (.g (h.length + 2 + 2)) 0 2 c2) = some [2, 292057776133] := fun B B2 X => listOf_at (st := .rw) (room := c2) (by rw [mg1]; rfl) (fun x => BK.noConfusion x) rfl
    have k1 : ∀ (B B2 B3 B4 : Blk) (X : List Blk), listOf (memH h m5 ++ (B :: B2 :: B3 :: B4 :: ⟨.rw, [.i .u64 28665, .i .u64 576465150349934592], 2⟩ :: X)) (.sl (.g (h.length + 2 + 3 + 1)) 0 2 2) = some [28665, 576465150349934592] := fun B B2 B3 B4 X => listOf_at (st := .rw) (room := 2) (by rw [show h.length + 2 + 3 + 1 = h.length + 2 + 4 from rfl, mg1]; rfl) (fun x => BK.noConfusion x) rfl
    have k2 : ∀ (B B2 B3 B4 B5 : Blk) (X : List Blk), listOf (memH h m5 ++ (B :: B2 :: B3 :: B4 :: B5 :: ⟨.rw, [.i .u64 301994242], 1⟩ :: X)) (.sl (.g (h.length + 2 + 3 + 2)) 0 1 1) = some [301994242] := fun B B2 B3 B4 B5 X => listOf_at (st := .rw) (room := 1) (by rw [show h.length + 2 + 3 + 2 = h.length + 2 + 5 from rfl, mg1]; rfl) (fun x => BK.noConfusion x) rfl
    have k3 : ∀ (B B2 B3 B4 B5 B6 : Blk) (X : List Blk), listOf (memH h m5 ++ (B :: B2 :: B3 :: B4 :: B5 :: B6 :: ⟨.rw, [.i .u64 2, .i .u64 292057776133], 2⟩ :: X)) (.sl (.g (h.length + 2 + 3 + 3)) 0 2 2) = some [2, 292057776133] := fun B B2 B3 B4 B5 B6 X => listOf_at (st := .rw) (room := 2) (by rw [show h.length + 2 + 3 + 3 = h.length + 2 + 6 from rfl, mg1]; rfl) (fun x => BK.noConfusion x) rfl
    simp (config := { maxSteps := 10000000 }) only [run_drx, run_xd, run_xq, run_xg, run_xb, EV1, EV2, EV3, EV4, EV5, EV6, addT, istep, lenR_sl, lenR_ns, lenR_es, pickR, putD, bin1R, un1R, slcR, bnd, capsOf, fillP, S_plain, V_plain, V.cells, S_known, V_known, C.v, blk, setL, setH, eqS, eq1, cmpS, cmp1, isNil, popTo, killT, setT, leT, V.below, C.below, S_below, R.below, V.val, C.val, S_val, R.val, R.takes, vals, shows, List.any_cons, List.any_nil, unnamed, V.kill, V.names, C.names, S_names, R.names, List.set, List.replicate, ↓q_cond_t, ↓q_cond_f, if_true, if_false, reduceCtorEq, rvals, rvC, result, C_known, V.noL, C.noL, S_noL, R.noL, Option.map, true_and, and_true, ge_iff_le, gt_iff_lt, implies_true, q_ite_t, q_ite_f, beq_iff_eq, bne_iff_ne, q_ne, Nat.reduceAdd, Nat.reducePow, Int.reducePow, Nat.reduceMul, Nat.reduceSub, Nat.reduceLeDiff, Nat.reduceLT, Nat.reduceEqDiff, Int.reduceNeg, Int.reduceLT, Int.reduceLE, Int.reduceEq, Int.reduceNe, Int.reduceAdd, Int.reduceSub, Int.reduceMul, Int.reduceToNat, Int.reduceBEq, Int.reduceBNe, TAw, sameWG, R.lend, R.unlend, S_ren, C.ren, V.ren, app_taken, app_dropn, app_take0, app_drop0, List.take_succ_cons, List.take_zero, List.drop_succ_cons, List.drop_zero, Nat.not_lt_zero, Nat.lt_irrefl, Nat.add_sub_cancel_left, Nat.not_lt, Nat.le_add_right, Blk.ren, List.map_cons, List.map_nil, q1, q2, q3, k1, k2, k3, mt1, md1, memH_len]
    have hcl : clean (h.length + 2 + 3) (memH h m5 ++ [⟨.rw, wc [28665, 576465150349934592], c⟩, ⟨.rw, wc [301994242], c1⟩, ⟨.rw, wc [2, 292057776133], c2⟩]) = true := memH_cleanA hc (by omega) (by simp [clean, wc_vals])
    refine ⟨hcl, hcl, hcl, ?_⟩
    show Cut _ _ _ (h ++ [_, _] ++ [_, _, _])
    rw [List.append_assoc]
    exact cut_app (Nat.le_refl _) hc rfl hS
  · exact hS.elim
end Go.Proofs.Ytdlloccodmdnnaa

/- Law 08: ObjsZero. -/
namespace Go.Proofs.Ytdlloccodmdnnaa
open Go.D
set_option linter.all false
set_option maxRecDepth 100000
set_option maxHeartbeats 8000000

section
variable {m : M} (hz : m.w = (M.zero 12).w)
include hz
end
end Go.Proofs.Ytdlloccodmdnnaa

/- Law 08: ObjsPlays. -/
namespace Go.Proofs.Ytdlloccodmdnnaa
open Go.D
set_option linter.all false
set_option maxRecDepth 100000
set_option maxHeartbeats 8000000

/-- So many steps at most. -/
def Adv (k : Int) (m m' : M) : Prop := ∃ j : Int, 0 ≤ j ∧ j ≤ k ∧ (m'.n - m.n) % 18446744073709551616 = j
theorem Adv.refl (m : M) {k : Int} (h : 0 ≤ k) : Adv k m m := ⟨0, by omega, h, by rw [Int.sub_self]; rfl⟩
theorem Adv.tick (m : M) : Adv 1 m (m.tick 1) := ⟨1, by omega, by omega, by
  show (IntKind.i64.wrap (m.n + 1) - m.n) % 18446744073709551616 = 1
  rw [IntKind.wrap_i64]; omega⟩
theorem Adv.ptick (m : M) (i : Nat) (x : Int) : Adv 1 m ((m.put i x).tick 1) := Adv.tick (m.put i x)
theorem Adv.trans {a b : Int} {m k n : M} (h1 : Adv a m k) (h2 : Adv b k n) (hs : a + b ≤ 1000) : Adv (a + b) m n := by
  obtain ⟨i, i1, i2, i3⟩ := h1
  obtain ⟨j, j1, j2, j3⟩ := h2
  exact ⟨i + j, by omega, by omega, by omega⟩
theorem Adv.mono {a b : Int} {m k : M} (h : Adv a m k) (hs : a ≤ b) : Adv b m k := by
  obtain ⟨i, i1, i2, i3⟩ := h
  exact ⟨i, i1, by omega, i3⟩
theorem Adv.le {a : Int} {m k : M} (h : Adv a m k) (hs : a ≤ 1000) : IntKind.i64.wrap (k.n - m.n) ≤ a := by
  obtain ⟨i, i1, i2, i3⟩ := h
  rw [IntKind.wrap_i64]; omega
theorem Adv.tks (m : M) : ∀ k : Nat, k ≤ 100 → Adv k m (m.tks k)
  | 0, _ => Adv.refl m (by omega)
  | k + 1, h => by
    have := (Adv.tks m k (by omega)).trans (Adv.tick (m.tks k)) (by omega)
    rw [show ((k + 1 : Nat) : Int) = k + 1 by omega]
    exact this
theorem Adv.wrs (m : M) (o : Nat) (ws : List Int) : ∀ k : Nat, k ≤ 100 → Adv k m (m.wrs o ws k)
  | 0, _ => Adv.refl m (by omega)
  | k + 1, h => by
    have := (Adv.wrs m o ws k (by omega)).trans (Adv.ptick (m.wrs o ws k) (o + k) (nth 0 ws k)) (by omega)
    rw [show ((k + 1 : Nat) : Int) = k + 1 by omega]
    exact this
/-! ### words -/
section
variable {m r : M} (hw : m.w = r.w)
include hw
end
theorem rsX_len (m : M) (a i w : Int) : (m.rsX a i w).w.length = m.w.length := by
  unfold M.rsX; cases (plE m a 64 i 15 == 0)
  · rfl
  · rw [cond_true, M.tick_len, M.put_len]
theorem esX_len (m : M) (a i : Int) (e : En) : (m.esX a i e).w.length = m.w.length := by
  unfold M.esX; cases (plE m a 8 i 7 == 0 && e.may)
  · rfl
  · rw [cond_true, M.tick_len, M.put_len]
theorem oX_len (m : M) (o : Oo) : (m.oX o).w.length = m.w.length := by
  unfold M.oX
  split
  · exact M.thX_len m _ _
  split
  · exact rsX_len m _ _ _
  split
  · exact M.qsX_len m _ _
  split
  · exact M.ssX_len m _ _
  split
  · exact esX_len m _ _ _
  split
  · exact M.tsX_len m _ _ _
  split
  · exact M.loadX_len m _ _
  · rfl
end Go.Proofs.Ytdlloccodmdnnaa

/- Law 08: sets, with more behind the two memories. -/
namespace Go.Proofs.Ytdlloccodmdnnaa
open Go.D
set_option linter.all false
set_option maxRecDepth 100000
set_option maxHeartbeats 8000000

open Classical in
noncomputable def twoXOf (H : List Blk) (a c : Nat) : Option (List Blk × List Blk × M × M) := if hx : ∃ x : List Blk × List Blk × M × M, H = memH (memH x.1 x.2.2.1) x.2.2.2 ++ x.2.1 ∧ a = x.1.length ∧ c = x.1.length + 2 then some (Classical.choose hx) else none
/-! ### words -/
def wds (n : Int) : Int := if n = 1 ∨ n = 2 then 64 else if n = 3 then 4 else if n = 4 ∨ n = 5 ∨ n = 6 then 8 else 0
theorem pl_in {m : M} {a k i hi : Int} (h : (plE m a k i hi == 0) = true) : 1024 ≤ a ∧ a % k = 0 ∧ a + k ≤ m.w.length ∧ 0 ≤ i ∧ i ≤ hi := by
  rw [beq_iff_eq] at h
  unfold plE at h
  cases e : otB m a k
  · rw [e] at h; cases h
  · rw [e, cond_true] at h
    have e1 := otB_iff.1 e
    cases f : in3 i 0 hi
    · rw [f] at h; cases h
    · have f1 := in3_iff.1 f
      exact ⟨e1.1, e1.2.1, e1.2.2, f1⟩
/-- No word beside the object changes. -/
theorem put_at {m : M} {i : Nat} {x : Int} {j : Nat} (h : i ≠ j) : (m.put i x).at j = m.at j := by
  rw [M.at_put, if_neg (by omega)]
theorem wrs_out (m : M) (o : Nat) (ws : List Int) (j : Nat) : ∀ k, (j < o ∨ o + k ≤ j) → (m.wrs o ws k).at j = m.at j
  | 0, _ => rfl
  | k + 1, h => by rw [M.wrs, M.at_tick, put_at (by omega), wrs_out m o ws j k (by omega)]
theorem oX_out (m : M) (p : Oo) (j : Nat) (hp : p.wh ≠ 7) (hj : ¬ (p.ad ≤ j ∧ (j : Int) < p.ad + wds p.wh)) : (m.oX p).at j = m.at j := by
  unfold M.oX
  by_cases h1 : p.wh = 1
  · rw [if_pos h1]
    rw [wds, if_pos (.inl h1)] at hj
    unfold M.thX
    split
    · rename_i e
      rw [Bool.and_eq_true, otB_iff] at e
      rw [wrs_out _ _ _ _ _ (by omega), wrs_out _ _ _ _ _ (by omega)]
    · rfl
  rw [if_neg h1]
  by_cases h2 : p.wh = 2
  · rw [if_pos h2]
    rw [wds, if_pos (.inr h2)] at hj
    unfold M.rsX
    cases e : (plE m p.ad 64 p.i 15 == 0)
    · rfl
    · have e2 := pl_in e
      rw [cond_true, M.at_tick, put_at (by omega)]
  rw [if_neg h2]
  by_cases h3 : p.wh = 3
  · rw [if_pos h3]
    rw [wds, if_neg (by omega), if_pos h3] at hj
    unfold M.qsX
    split
    · rename_i e
      rw [Bool.and_eq_true, otB_iff] at e
      rw [M.at_tick, put_at (by omega)]
    · rfl
  rw [if_neg h3]
  by_cases h4 : p.wh = 4
  · rw [if_pos h4]
    rw [wds, if_neg (by omega), if_neg h3, if_pos (by omega)] at hj
    unfold M.ssX
    split
    · rename_i e
      rw [Bool.and_eq_true, otB_iff] at e
      rw [M.at_tick, put_at (by omega), M.at_tick, put_at (by omega)]
    · rfl
  rw [if_neg h4]
  by_cases h5 : p.wh = 5
  · rw [if_pos h5]
    rw [wds, if_neg (by omega), if_neg h3, if_pos (by omega)] at hj
    unfold M.esX
    cases e : (plE m p.ad 8 p.i 7 == 0 && p.e.may)
    · rfl
    · rw [Bool.and_eq_true] at e
      have e2 := pl_in e.1
      rw [cond_true, M.at_tick, put_at (by omega)]
  rw [if_neg h5]
  by_cases h6 : p.wh = 6
  · rw [if_pos h6]
    rw [wds, if_neg (by omega), if_neg h3, if_pos (by omega)] at hj
    unfold M.tsX
    cases e : (plE m p.ad 8 p.i 7 == 0 && rootB p.tb)
    · rfl
    · rw [Bool.and_eq_true] at e
      have e2 := pl_in e.1
      rw [cond_true, M.at_tick, put_at (by omega)]
  rw [if_neg h6, if_neg hp]
end Go.Proofs.Ytdlloccodmdnnaa

