/- Law 05: WalkEntries, WalkWalks. -/
import Derived.Test.YteeeidldknlblaaZ1
import Derived.Test.YteeeidldknlblaaZ3
import Derived.Test.YteeeidldknlblaaZ2
import Derived.Deep.Slices
import Derived.ChangeSame
import Derived.ReadAgain
import Derived.RowKit3
import Derived.OpenShut
import Derived.SizedLaws
import Derived.JoinedCond
import Derived.KernelRfl
import Derived.Test.YteeeidldknlblaaRows
/- The document's Walk. (Printed by gen_V5.py.) -/
namespace Go.Proofs.Yteeeidldknlblaa
open Go.D
set_option linter.all false
set_option maxRecDepth 100000
set_option maxHeartbeats 4000000

theorem rWalk_snd : Snd Try.prog 45 (FSpec.of walkG) := snd_run TwW_snd mixed Try.func45 dc45 300 fun args h K hc hS => by
  obtain ⟨a, b, m, rest, rfl, H, hS1⟩ := memF_spec hS
  clear hS
  have hS := hS1
  clear hS1
  unfold walkM at hS
  split at hS
  · rename_i t v
    simp only [spec_br, spec_ok, setM_self H, WR.v, Bool.and_eq_true] at hS
    cases hv : virtB v with
    | false =>
      have hS := hS.2 (by rw [hv]; rfl)
      simp (config := { maxSteps := 10000000 }) only [EV1, EV2, EV3, EV4, EV5, EV6, addT, istep, lenR_sl, lenR_ns, lenR_es, pickR, putD, bin1R, un1R, slcR, bnd, capsOf, fillP, S_plain, V_plain, V.cells, S_known, V_known, C.v, blk, setL, setH, eqS, eq1, cmpS, cmp1, isNil, popTo, killT, setT, leT, V.below, C.below, S_below, R.below, V.val, C.val, S_val, R.val, R.takes, vals, shows, List.any_cons, List.any_nil, unnamed, V.kill, V.names, C.names, S_names, R.names, List.set, List.replicate, ↓q_cond_t, ↓q_cond_f, if_true, if_false, reduceCtorEq, rvals, rvC, result, C_known, V.noL, C.noL, S_noL, R.noL, Option.map, true_and, and_true, ge_iff_le, gt_iff_lt, implies_true, q_ite_t, q_ite_f, beq_iff_eq, bne_iff_ne, q_ne, Nat.reduceAdd, Nat.reducePow, Int.reducePow, Nat.reduceMul, Nat.reduceSub, Nat.reduceLeDiff, Nat.reduceLT, Nat.reduceEqDiff, Int.reduceNeg, Int.reduceLT, Int.reduceLE, Int.reduceEq, Int.reduceNe, Int.reduceAdd, Int.reduceSub, Int.reduceMul, Int.reduceToNat, Int.reduceBEq, Int.reduceBNe, df45, TwW, virtG, hv]
      exact hS
    | true =>
      cases htt : virtB t with
      | false =>
        have hS := hS.2 (by rw [hv, htt]; rfl)
        have htn : ¬ (0 ≤ t ∧ t ≤ 65535) := by simpa [virtB] using htt
        by_cases c1 : t < 0
        · simp (config := { maxSteps := 10000000 }) only [EV1, EV2, EV3, EV4, EV5, EV6, addT, istep, lenR_sl, lenR_ns, lenR_es, pickR, putD, bin1R, un1R, slcR, bnd, capsOf, fillP, S_plain, V_plain, V.cells, S_known, V_known, C.v, blk, setL, setH, eqS, eq1, cmpS, cmp1, isNil, popTo, killT, setT, leT, V.below, C.below, S_below, R.below, V.val, C.val, S_val, R.val, R.takes, vals, shows, List.any_cons, List.any_nil, unnamed, V.kill, V.names, C.names, S_names, R.names, List.set, List.replicate, ↓q_cond_t, ↓q_cond_f, if_true, if_false, reduceCtorEq, rvals, rvC, result, C_known, V.noL, C.noL, S_noL, R.noL, Option.map, true_and, and_true, ge_iff_le, gt_iff_lt, implies_true, q_ite_t, q_ite_f, beq_iff_eq, bne_iff_ne, q_ne, Nat.reduceAdd, Nat.reducePow, Int.reducePow, Nat.reduceMul, Nat.reduceSub, Nat.reduceLeDiff, Nat.reduceLT, Nat.reduceEqDiff, Int.reduceNeg, Int.reduceLT, Int.reduceLE, Int.reduceEq, Int.reduceNe, Int.reduceAdd, Int.reduceSub, Int.reduceMul, Int.reduceToNat, Int.reduceBEq, Int.reduceBNe, df45, TwW, virtG, hv, c1]
          exact hS
        have c2 : 65535 < t := by omega
        simp (config := { maxSteps := 10000000 }) only [EV1, EV2, EV3, EV4, EV5, EV6, addT, istep, lenR_sl, lenR_ns, lenR_es, pickR, putD, bin1R, un1R, slcR, bnd, capsOf, fillP, S_plain, V_plain, V.cells, S_known, V_known, C.v, blk, setL, setH, eqS, eq1, cmpS, cmp1, isNil, popTo, killT, setT, leT, V.below, C.below, S_below, R.below, V.val, C.val, S_val, R.val, R.takes, vals, shows, List.any_cons, List.any_nil, unnamed, V.kill, V.names, C.names, S_names, R.names, List.set, List.replicate, ↓q_cond_t, ↓q_cond_f, if_true, if_false, reduceCtorEq, rvals, rvC, result, C_known, V.noL, C.noL, S_noL, R.noL, Option.map, true_and, and_true, ge_iff_le, gt_iff_lt, implies_true, q_ite_t, q_ite_f, beq_iff_eq, bne_iff_ne, q_ne, Nat.reduceAdd, Nat.reducePow, Int.reducePow, Nat.reduceMul, Nat.reduceSub, Nat.reduceLeDiff, Nat.reduceLT, Nat.reduceEqDiff, Int.reduceNeg, Int.reduceLT, Int.reduceLE, Int.reduceEq, Int.reduceNe, Int.reduceAdd, Int.reduceSub, Int.reduceMul, Int.reduceToNat, Int.reduceBEq, Int.reduceBNe, df45, TwW, virtG, hv, c1, c2]
        exact hS
      | true =>
        have hS := hS.1 ⟨hv, htt⟩
        have htb : 0 ≤ t ∧ t ≤ 65535 := by simpa [virtB] using htt
        have c1 : ¬ t < 0 := by omega
        have c2 : ¬ 65535 < t := by omega
        simp (config := { maxSteps := 10000000 }) only [EV1, EV2, EV3, EV4, EV5, EV6, addT, istep, lenR_sl, lenR_ns, lenR_es, pickR, putD, bin1R, un1R, slcR, bnd, capsOf, fillP, S_plain, V_plain, V.cells, S_known, V_known, C.v, blk, setL, setH, eqS, eq1, cmpS, cmp1, isNil, popTo, killT, setT, leT, V.below, C.below, S_below, R.below, V.val, C.val, S_val, R.val, R.takes, vals, shows, List.any_cons, List.any_nil, unnamed, V.kill, V.names, C.names, S_names, R.names, List.set, List.replicate, ↓q_cond_t, ↓q_cond_f, if_true, if_false, reduceCtorEq, rvals, rvC, result, C_known, V.noL, C.noL, S_noL, R.noL, Option.map, true_and, and_true, ge_iff_le, gt_iff_lt, implies_true, q_ite_t, q_ite_f, beq_iff_eq, bne_iff_ne, q_ne, Nat.reduceAdd, Nat.reducePow, Int.reducePow, Nat.reduceMul, Nat.reduceSub, Nat.reduceLeDiff, Nat.reduceLT, Nat.reduceEqDiff, Int.reduceNeg, Int.reduceLT, Int.reduceLE, Int.reduceEq, Int.reduceNe, Int.reduceAdd, Int.reduceSub, Int.reduceMul, Int.reduceToNat, Int.reduceBEq, Int.reduceBNe, df45, TwW, virtG, hv, c1, c2]
        refine loop_rule (α := Nat × Int × M) [6, 7, 8, 9, 11, 12, 13, 14, 15, 16, 30, 31, 32, 33, 34, 35, 36, 37, 38, 39, 40, 41, 42, 43, 44, 45, 46, 47, 48, 49, 50, 51, 52, 53, 54, 55, 56, 57, 58, 59, 60, 61, 62, 63, 64, 65, 66, 67, 68, 69, 70, 71, 72, 73, 74, 75, 76] (fun y => [(11, .s (.i .i64 y.2.1)), (12, .s (.i .i64 ((4 - y.1 : Nat) : Int)))]) (fun _ => []) (fun y => setM h a b y.2.2)
          (fun y => 1 ≤ y.1 ∧ y.1 ≤ 4 ∧ (0 ≤ y.2.1 ∧ y.2.1 ≤ 65535) ∧ walkF v 4 m t 0 = walkF v y.1 y.2.2 y.2.1 ((4 - y.1 : Nat) : Int)) (fun y => y.1) (4, t, m) ⟨by simp only; omega, by simp only; omega, htb, rfl⟩ ?_ ?_
        · rw [setM_self H]
          refine Wk.same rfl rfl ?_
          simp (config := { maxSteps := 10000000 }) only [EV1, EV2, EV3, EV4, EV5, EV6, addT, istep, lenR_sl, lenR_ns, lenR_es, pickR, putD, bin1R, un1R, slcR, bnd, capsOf, fillP, S_plain, V_plain, V.cells, S_known, V_known, C.v, blk, setL, setH, eqS, eq1, cmpS, cmp1, isNil, popTo, killT, setT, leT, V.below, C.below, S_below, R.below, V.val, C.val, S_val, R.val, R.takes, vals, shows, List.any_cons, List.any_nil, unnamed, V.kill, V.names, C.names, S_names, R.names, List.set, List.replicate, ↓q_cond_t, ↓q_cond_f, if_true, if_false, reduceCtorEq, rvals, rvC, result, C_known, V.noL, C.noL, S_noL, R.noL, Option.map, true_and, and_true, ge_iff_le, gt_iff_lt, implies_true, q_ite_t, q_ite_f, beq_iff_eq, bne_iff_ne, q_ne, Nat.reduceAdd, Nat.reducePow, Int.reducePow, Nat.reduceMul, Nat.reduceSub, Nat.reduceLeDiff, Nat.reduceLT, Nat.reduceEqDiff, Int.reduceNeg, Int.reduceLT, Int.reduceLE, Int.reduceEq, Int.reduceNe, Int.reduceAdd, Int.reduceSub, Int.reduceMul, Int.reduceToNat, Int.reduceBEq, Int.reduceBNe, q_cast, Nat.reduceSub]
        · rintro X ⟨n, t, m⟩ ⟨hn1, hn3, htb, hF⟩ IH
          simp only at hn1 hn3 htb hF IH ⊢
          rw [hF] at hS
          obtain ⟨k, rfl⟩ : ∃ k, n = k + 1 := ⟨n - 1, by omega⟩
          obtain ⟨l, hl⟩ : ∃ l : Nat, 4 - (k + 1) = l := ⟨_, rfl⟩
          rw [hl] at hS hF ⊢
          have l1 : IntKind.i64.wrap ((l : Int) + 1) = ((l + 1 : Nat) : Int) := by rw [wrap64] <;> omega
          have hlt : (l : Int) < 4 := by omega
          obtain ⟨q, hq⟩ : ∃ q, ((l : Int) == 3) = q := ⟨_, rfl⟩
          have aw := at_wrap (v := v) (l := l) htb
          have hu := M.readV_u m (atW t v l)
          obtain ⟨w, hw⟩ : ∃ w, m.readV (atW t v l) = w := ⟨_, rfl⟩
          obtain ⟨m1, hm1⟩ : ∃ m1, m.readX (atW t v l) = m1 := ⟨_, rfl⟩
          rw [hw] at hu
          rcases stepB_cases m t v l with ⟨hs, he, hv0⟩ | ⟨hs, he, hb⟩ | ⟨he, hb, hs⟩
          · rw [hw] at hv0
            subst hv0
            rw [walk_stop hs, hm1] at hS
            refine run_sound (Tab.ok_Γ _) 300 _ _ _ _ ?_
            simp (config := { maxSteps := 10000000 }) only [EV1, EV2, EV3, EV4, EV5, EV6, addT, istep, lenR_sl, lenR_ns, lenR_es, pickR, putD, bin1R, un1R, slcR, bnd, capsOf, fillP, S_plain, V_plain, V.cells, S_known, V_known, C.v, blk, setL, setH, eqS, eq1, cmpS, cmp1, isNil, popTo, killT, setT, leT, V.below, C.below, S_below, R.below, V.val, C.val, S_val, R.val, R.takes, vals, shows, List.any_cons, List.any_nil, unnamed, V.kill, V.names, C.names, S_names, R.names, List.set, List.replicate, ↓q_cond_t, ↓q_cond_f, if_true, if_false, reduceCtorEq, rvals, rvC, result, C_known, V.noL, C.noL, S_noL, R.noL, Option.map, true_and, and_true, ge_iff_le, gt_iff_lt, implies_true, q_ite_t, q_ite_f, beq_iff_eq, bne_iff_ne, q_ne, Nat.reduceAdd, Nat.reducePow, Int.reducePow, Nat.reduceMul, Nat.reduceSub, Nat.reduceLeDiff, Nat.reduceLT, Nat.reduceEqDiff, Int.reduceNeg, Int.reduceLT, Int.reduceLE, Int.reduceEq, Int.reduceNe, Int.reduceAdd, Int.reduceSub, Int.reduceMul, Int.reduceToNat, Int.reduceBEq, Int.reduceBNe, memF_set H, TwW, idxG, read2G, read2M, decEG, En.c, hv, hu, aw, put, fillP, hw, hm1, he, enB_0, hq, hlt]
            exact hS
          · rw [hw] at hb
            rw [walk_stop hs, hm1] at hS
            refine run_sound (Tab.ok_Γ _) 300 _ _ _ _ ?_
            simp (config := { maxSteps := 10000000 }) only [EV1, EV2, EV3, EV4, EV5, EV6, addT, istep, lenR_sl, lenR_ns, lenR_es, pickR, putD, bin1R, un1R, slcR, bnd, capsOf, fillP, S_plain, V_plain, V.cells, S_known, V_known, C.v, blk, setL, setH, eqS, eq1, cmpS, cmp1, isNil, popTo, killT, setT, leT, V.below, C.below, S_below, R.below, V.val, C.val, S_val, R.val, R.takes, vals, shows, List.any_cons, List.any_nil, unnamed, V.kill, V.names, C.names, S_names, R.names, List.set, List.replicate, ↓q_cond_t, ↓q_cond_f, if_true, if_false, reduceCtorEq, rvals, rvC, result, C_known, V.noL, C.noL, S_noL, R.noL, Option.map, true_and, and_true, ge_iff_le, gt_iff_lt, implies_true, q_ite_t, q_ite_f, beq_iff_eq, bne_iff_ne, q_ne, Nat.reduceAdd, Nat.reducePow, Int.reducePow, Nat.reduceMul, Nat.reduceSub, Nat.reduceLeDiff, Nat.reduceLT, Nat.reduceEqDiff, Int.reduceNeg, Int.reduceLT, Int.reduceLE, Int.reduceEq, Int.reduceNe, Int.reduceAdd, Int.reduceSub, Int.reduceMul, Int.reduceToNat, Int.reduceBEq, Int.reduceBNe, memF_set H, TwW, idxG, read2G, read2M, decEG, En.c, hv, hu, aw, put, fillP, hw, hm1, he, hb, hq, hlt]
            exact hS
          · rw [hw] at hb hs
            cases hxv : (enOf w).v with
            | false =>
              rw [hxv, Bool.false_and] at hs
              rw [walk_stop hs, hm1] at hS
              refine run_sound (Tab.ok_Γ _) 300 _ _ _ _ ?_
              simp (config := { maxSteps := 10000000 }) only [EV1, EV2, EV3, EV4, EV5, EV6, addT, istep, lenR_sl, lenR_ns, lenR_es, pickR, putD, bin1R, un1R, slcR, bnd, capsOf, fillP, S_plain, V_plain, V.cells, S_known, V_known, C.v, blk, setL, setH, eqS, eq1, cmpS, cmp1, isNil, popTo, killT, setT, leT, V.below, C.below, S_below, R.below, V.val, C.val, S_val, R.val, R.takes, vals, shows, List.any_cons, List.any_nil, unnamed, V.kill, V.names, C.names, S_names, R.names, List.set, List.replicate, ↓q_cond_t, ↓q_cond_f, if_true, if_false, reduceCtorEq, rvals, rvC, result, C_known, V.noL, C.noL, S_noL, R.noL, Option.map, true_and, and_true, ge_iff_le, gt_iff_lt, implies_true, q_ite_t, q_ite_f, beq_iff_eq, bne_iff_ne, q_ne, Nat.reduceAdd, Nat.reducePow, Int.reducePow, Nat.reduceMul, Nat.reduceSub, Nat.reduceLeDiff, Nat.reduceLT, Nat.reduceEqDiff, Int.reduceNeg, Int.reduceLT, Int.reduceLE, Int.reduceEq, Int.reduceNe, Int.reduceAdd, Int.reduceSub, Int.reduceMul, Int.reduceToNat, Int.reduceBEq, Int.reduceBNe, memF_set H, TwW, idxG, read2G, read2M, decEG, En.c, hv, hu, aw, put, fillP, hw, hm1, he, hb, hxv, hq, hlt]
              exact hS
            | true =>
              cases hxl : (enOf w).l with
              | false =>
                cases q with
                | false =>
                  have hs : stepB m t v l = true := by rw [hs, hxv, hxl, hq]; rfl
                  have l3 : ¬ (l : Int) = 3 := by simpa using hq
                  rw [walk_on hs l3, hm1, hw] at hS hF
                  have tb := en_lim hb
                  have l4 : 4 - k = l + 1 := by omega
                  refine run_sound (Tab.ok_Γ _) 300 _ _ _ _ ?_
                  simp (config := { maxSteps := 10000000 }) only [EV1, EV2, EV3, EV4, EV5, EV6, addT, istep, lenR_sl, lenR_ns, lenR_es, pickR, putD, bin1R, un1R, slcR, bnd, capsOf, fillP, S_plain, V_plain, V.cells, S_known, V_known, C.v, blk, setL, setH, eqS, eq1, cmpS, cmp1, isNil, popTo, killT, setT, leT, V.below, C.below, S_below, R.below, V.val, C.val, S_val, R.val, R.takes, vals, shows, List.any_cons, List.any_nil, unnamed, V.kill, V.names, C.names, S_names, R.names, List.set, List.replicate, ↓q_cond_t, ↓q_cond_f, if_true, if_false, reduceCtorEq, rvals, rvC, result, C_known, V.noL, C.noL, S_noL, R.noL, Option.map, true_and, and_true, ge_iff_le, gt_iff_lt, implies_true, q_ite_t, q_ite_f, beq_iff_eq, bne_iff_ne, q_ne, Nat.reduceAdd, Nat.reducePow, Int.reducePow, Nat.reduceMul, Nat.reduceSub, Nat.reduceLeDiff, Nat.reduceLT, Nat.reduceEqDiff, Int.reduceNeg, Int.reduceLT, Int.reduceLE, Int.reduceEq, Int.reduceNe, Int.reduceAdd, Int.reduceSub, Int.reduceMul, Int.reduceToNat, Int.reduceBEq, Int.reduceBNe, memF_set H, TwW, idxG, read2G, read2M, decEG, En.c, hv, hu, aw, put, fillP, hw, hm1, he, hb, hxv, hxl, l1, hq, hlt]
                  refine IH (k, (enOf w).a, m1) _ (Nat.lt_succ_self k) ⟨by simp only; omega, by simp only; omega, ⟨tb.1, by simp only; omega⟩, ?_⟩ (Wk.keep 0 rfl rfl ?_ ?_ rfl)
                  · simp only [l4]; rw [hF]; rfl
                  · simp (config := { maxSteps := 10000000 }) only [EV1, EV2, EV3, EV4, EV5, EV6, addT, istep, lenR_sl, lenR_ns, lenR_es, pickR, putD, bin1R, un1R, slcR, bnd, capsOf, fillP, S_plain, V_plain, V.cells, S_known, V_known, C.v, blk, setL, setH, eqS, eq1, cmpS, cmp1, isNil, popTo, killT, setT, leT, V.below, C.below, S_below, R.below, V.val, C.val, S_val, R.val, R.takes, vals, shows, List.any_cons, List.any_nil, unnamed, V.kill, V.names, C.names, S_names, R.names, List.set, List.replicate, ↓q_cond_t, ↓q_cond_f, if_true, if_false, reduceCtorEq, rvals, rvC, result, C_known, V.noL, C.noL, S_noL, R.noL, Option.map, true_and, and_true, ge_iff_le, gt_iff_lt, implies_true, q_ite_t, q_ite_f, beq_iff_eq, bne_iff_ne, q_ne, Nat.reduceAdd, Nat.reducePow, Int.reducePow, Nat.reduceMul, Nat.reduceSub, Nat.reduceLeDiff, Nat.reduceLT, Nat.reduceEqDiff, Int.reduceNeg, Int.reduceLT, Int.reduceLE, Int.reduceEq, Int.reduceNe, Int.reduceAdd, Int.reduceSub, Int.reduceMul, Int.reduceToNat, Int.reduceBEq, Int.reduceBNe, l4]
                  · simp (config := { maxSteps := 10000000 }) only [EV1, EV2, EV3, EV4, EV5, EV6, addT, istep, lenR_sl, lenR_ns, lenR_es, pickR, putD, bin1R, un1R, slcR, bnd, capsOf, fillP, S_plain, V_plain, V.cells, S_known, V_known, C.v, blk, setL, setH, eqS, eq1, cmpS, cmp1, isNil, popTo, killT, setT, leT, V.below, C.below, S_below, R.below, V.val, C.val, S_val, R.val, R.takes, vals, shows, List.any_cons, List.any_nil, unnamed, V.kill, V.names, C.names, S_names, R.names, List.set, List.replicate, ↓q_cond_t, ↓q_cond_f, if_true, if_false, reduceCtorEq, rvals, rvC, result, C_known, V.noL, C.noL, S_noL, R.noL, Option.map, true_and, and_true, ge_iff_le, gt_iff_lt, implies_true, q_ite_t, q_ite_f, beq_iff_eq, bne_iff_ne, q_ne, Nat.reduceAdd, Nat.reducePow, Int.reducePow, Nat.reduceMul, Nat.reduceSub, Nat.reduceLeDiff, Nat.reduceLT, Nat.reduceEqDiff, Int.reduceNeg, Int.reduceLT, Int.reduceLE, Int.reduceEq, Int.reduceNe, Int.reduceAdd, Int.reduceSub, Int.reduceMul, Int.reduceToNat, Int.reduceBEq, Int.reduceBNe]
                | true =>
                  have hs : stepB m t v l = false := by rw [hs, hxv, hxl, hq]; rfl
                  rw [walk_stop hs, hm1] at hS
                  refine run_sound (Tab.ok_Γ _) 300 _ _ _ _ ?_
                  simp (config := { maxSteps := 10000000 }) only [EV1, EV2, EV3, EV4, EV5, EV6, addT, istep, lenR_sl, lenR_ns, lenR_es, pickR, putD, bin1R, un1R, slcR, bnd, capsOf, fillP, S_plain, V_plain, V.cells, S_known, V_known, C.v, blk, setL, setH, eqS, eq1, cmpS, cmp1, isNil, popTo, killT, setT, leT, V.below, C.below, S_below, R.below, V.val, C.val, S_val, R.val, R.takes, vals, shows, List.any_cons, List.any_nil, unnamed, V.kill, V.names, C.names, S_names, R.names, List.set, List.replicate, ↓q_cond_t, ↓q_cond_f, if_true, if_false, reduceCtorEq, rvals, rvC, result, C_known, V.noL, C.noL, S_noL, R.noL, Option.map, true_and, and_true, ge_iff_le, gt_iff_lt, implies_true, q_ite_t, q_ite_f, beq_iff_eq, bne_iff_ne, q_ne, Nat.reduceAdd, Nat.reducePow, Int.reducePow, Nat.reduceMul, Nat.reduceSub, Nat.reduceLeDiff, Nat.reduceLT, Nat.reduceEqDiff, Int.reduceNeg, Int.reduceLT, Int.reduceLE, Int.reduceEq, Int.reduceNe, Int.reduceAdd, Int.reduceSub, Int.reduceMul, Int.reduceToNat, Int.reduceBEq, Int.reduceBNe, memF_set H, TwW, idxG, read2G, read2M, decEG, En.c, hv, hu, aw, put, fillP, hw, hm1, he, hb, hxv, hxl, hq, hlt]
                  exact hS
              | true =>
                cases q with
                | false =>
                  have hs : stepB m t v l = false := by rw [hs, hxv, hxl, hq]; rfl
                  rw [walk_stop hs, hm1] at hS
                  refine run_sound (Tab.ok_Γ _) 300 _ _ _ _ ?_
                  simp (config := { maxSteps := 10000000 }) only [EV1, EV2, EV3, EV4, EV5, EV6, addT, istep, lenR_sl, lenR_ns, lenR_es, pickR, putD, bin1R, un1R, slcR, bnd, capsOf, fillP, S_plain, V_plain, V.cells, S_known, V_known, C.v, blk, setL, setH, eqS, eq1, cmpS, cmp1, isNil, popTo, killT, setT, leT, V.below, C.below, S_below, R.below, V.val, C.val, S_val, R.val, R.takes, vals, shows, List.any_cons, List.any_nil, unnamed, V.kill, V.names, C.names, S_names, R.names, List.set, List.replicate, ↓q_cond_t, ↓q_cond_f, if_true, if_false, reduceCtorEq, rvals, rvC, result, C_known, V.noL, C.noL, S_noL, R.noL, Option.map, true_and, and_true, ge_iff_le, gt_iff_lt, implies_true, q_ite_t, q_ite_f, beq_iff_eq, bne_iff_ne, q_ne, Nat.reduceAdd, Nat.reducePow, Int.reducePow, Nat.reduceMul, Nat.reduceSub, Nat.reduceLeDiff, Nat.reduceLT, Nat.reduceEqDiff, Int.reduceNeg, Int.reduceLT, Int.reduceLE, Int.reduceEq, Int.reduceNe, Int.reduceAdd, Int.reduceSub, Int.reduceMul, Int.reduceToNat, Int.reduceBEq, Int.reduceBNe, memF_set H, TwW, idxG, read2G, read2M, decEG, En.c, hv, hu, aw, put, fillP, hw, hm1, he, hb, hxv, hxl, hq, hlt]
                  exact hS
                | true =>
                  have hs : stepB m t v l = true := by rw [hs, hxv, hxl, hq]; rfl
                  have l3 : (l : Int) = 3 := by simpa using hq
                  rw [walk_end hs l3, hm1, hw] at hS
                  refine run_sound (Tab.ok_Γ _) 300 _ _ _ _ ?_
                  simp (config := { maxSteps := 10000000 }) only [EV1, EV2, EV3, EV4, EV5, EV6, addT, istep, lenR_sl, lenR_ns, lenR_es, pickR, putD, bin1R, un1R, slcR, bnd, capsOf, fillP, S_plain, V_plain, V.cells, S_known, V_known, C.v, blk, setL, setH, eqS, eq1, cmpS, cmp1, isNil, popTo, killT, setT, leT, V.below, C.below, S_below, R.below, V.val, C.val, S_val, R.val, R.takes, vals, shows, List.any_cons, List.any_nil, unnamed, V.kill, V.names, C.names, S_names, R.names, List.set, List.replicate, ↓q_cond_t, ↓q_cond_f, if_true, if_false, reduceCtorEq, rvals, rvC, result, C_known, V.noL, C.noL, S_noL, R.noL, Option.map, true_and, and_true, ge_iff_le, gt_iff_lt, implies_true, q_ite_t, q_ite_f, beq_iff_eq, bne_iff_ne, q_ne, Nat.reduceAdd, Nat.reducePow, Int.reducePow, Nat.reduceMul, Nat.reduceSub, Nat.reduceLeDiff, Nat.reduceLT, Nat.reduceEqDiff, Int.reduceNeg, Int.reduceLT, Int.reduceLE, Int.reduceEq, Int.reduceNe, Int.reduceAdd, Int.reduceSub, Int.reduceMul, Int.reduceToNat, Int.reduceBEq, Int.reduceBNe, memF_set H, TwW, idxG, read2G, read2M, decEG, En.c, hv, hu, aw, put, fillP, hw, hm1, he, hb, hxv, hxl, hq, hlt]
                  exact hS
  · exact hS.elim
end Go.Proofs.Yteeeidldknlblaa

/- Law 05: what is laid ahead of all. -/
namespace Go.Proofs.Yteeeidldknlblaa
open Go.D
set_option linter.all false
set_option maxRecDepth 100000
set_option maxHeartbeats 4000000

structure Wd where
  addr : Int
  e : En
  raw : Bool
  w : Int
def Wd.c (x : Wd) : List S := [.i .i64 x.addr, .b x.e.v, .b x.e.l, .i .i64 x.e.a, .i .i64 x.e.r, .b x.raw, .i .u64 x.w]
theorem Wd.c_len (x : Wd) : x.c.length = 7 := rfl
instance : Cells Wd.c := ⟨⟨7, Wd.c_len⟩, fun x y e => by
  obtain ⟨a, ⟨v, l, ea, r⟩, q, w⟩ := x
  obtain ⟨a', ⟨v', l', ea', r'⟩, q', w'⟩ := y
  simp only [Wd.c, List.cons.injEq, S.i.injEq, S.b.injEq, true_and, and_true] at e
  obtain ⟨rfl, rfl, rfl, rfl, rfl, rfl, rfl⟩ := e
  rfl⟩
def wdZ : Wd := ⟨0, enZ, false, 0⟩
/-- Is it laid? The word. -/
def Wd.on (x : Wd) : Bool := x.raw || x.e.may
def Wd.word (x : Wd) : Int := if x.raw then x.w else x.e.w
def M.laid1 (m : M) (x : Wd) : M := if x.on then m.loadX x.addr [x.word] else m
def M.laid (m : M) : List Wd → M
  | [] => m
  | x :: L => (m.laid1 x).laid L
theorem M.laid1_len (m : M) (x : Wd) : (m.laid1 x).w.length = m.w.length := by
  unfold M.laid1; split
  · exact M.loadX_len _ _ _
  · rfl
theorem M.laid_len : ∀ (L : List Wd) (m : M), (m.laid L).w.length = m.w.length
  | [], _ => rfl
  | x :: L, m => by rw [M.laid, M.laid_len L, M.laid1_len]
theorem M.laid_snoc (x : Wd) : ∀ (L : List Wd) (m : M), m.laid (L ++ [x]) = (m.laid L).laid1 x
  | [], _ => rfl
  | y :: L, m => by simp only [List.cons_append, M.laid, M.laid_snoc x L]
/-- What is laid lies in what was there, or behind both memories. -/
def WdsAt (h X : List Blk) (s : S) (L : List Wd) : Prop := ∀ A B C D : Blk, IsArr Wd.c (h ++ (A :: B :: C :: D :: X)) s L
structure LaidA where
  h : List Blk
  m : M
  X : List Blk
  s : S
  L : List Wd
def bothL (h : List Blk) (m : M) (X : List Blk) : List Blk := h ++ (MB (h.length + 1) m :: MW m :: MB (h.length + 3) m :: MW m :: X)
theorem bothL_inj {h h' X X' : List Blk} {m m' : M} (hl : h.length = h'.length) (e : bothL h m X = bothL h' m' X') : h = h' ∧ m = m' ∧ X = X' := by
  obtain ⟨e1, e2⟩ := app_inj e hl
  subst e1
  simp only [List.cons.injEq] at e2
  exact ⟨rfl, M.ext' (MW_inj e2.2.1) (MB_inj e2.1), e2.2.2.2.2⟩
noncomputable def laidG : List V → List Blk → Res := shape (α := LaidA) (fun a => ([.s (.p (.g a.h.length) 0), .s (.p (.g (a.h.length + 2)) 0), .s a.s], bothL a.h a.m a.X)) (fun a => WdsAt a.h a.X a.s a.L ∧ (∀ x, x ∈ a.L → u64 x.w) ∧ a.L.length ≤ 140737488355328)
  (fun a => .ok (.s (.b true)) [] (bothL a.h (a.m.laid a.L) a.X))
theorem laidG_eq {h X : List Blk} {m : M} {s : S} {L : List Wd} (H : WdsAt h X s L) (hu : ∀ x, x ∈ L → u64 x.w) (hl : L.length ≤ 140737488355328) :
    laidG [.s (.p (.g h.length) 0), .s (.p (.g (h.length + 2)) 0), .s s] (h ++ (MB (h.length + 1) m :: MW m :: MB (h.length + 3) m :: MW m :: X)) = .ok (.s (.b true)) [] (h ++ (MB (h.length + 1) (m.laid L) :: MW (m.laid L) :: MB (h.length + 3) (m.laid L) :: MW (m.laid L) :: X)) := by
  refine shape_eq (α := LaidA) (fun a b e ha hb => ?_) (LaidA.mk h m X s L) rfl ⟨H, hu, hl⟩
  simp only [Prod.mk.injEq, List.cons.injEq, V.s.injEq, S.p.injEq, R.g.injEq, and_true] at e
  obtain ⟨⟨e1, _, e2⟩, e3⟩ := e
  obtain ⟨h1, h2, h3⟩ := bothL_inj e1 e3
  have e4 : a.L = b.L := by
    have x1 := ha.1 (MB 0 a.m) (MB 0 a.m) (MB 0 a.m) (MB 0 a.m)
    have x2 := hb.1 (MB 0 a.m) (MB 0 a.m) (MB 0 a.m) (MB 0 a.m)
    rw [← h1, ← h3, ← e2] at x2
    exact x1.uniq x2
  rw [h1, h2, h3, e4]
def encEF (e : En) : Int × Int := if e.may then (e.w, 0) else (0, 10)
noncomputable def TwL : Tab := addT 37 encEG (addT 27 load2G (addT 65 load2G (noT)))
theorem TwL_snd : TwL.Snd Try.prog := addT_snd ok37 rencE_snd (addT_snd ok27 load2_snd (addT_snd ok65 rload2_snd ((noT_snd _))))
theorem laid_snd : Snd Try.prog 42 (FSpec.of laidG) := snd_run TwL_snd mixed Try.func42 dc42 300 fun args h0 K hc hS => by
  obtain ⟨⟨h, m, X, s, L⟩, e, ⟨HL, hu, hl⟩, hR⟩ := shape_spec hS
  clear hS
  simp only at HL hu hl
  simp only [Prod.mk.injEq] at e
  obtain ⟨rfl, rfl⟩ := e
  simp only [spec_ok, bothL] at hR
  simp only [bothL] at hc ⊢
  have H0 := HL (MB 0 m) (MB 0 m) (MB 0 m) (MB 0 m)
  have hlen := fun ls h' => H0.sl.len (ls := ls) (h := h')
  have hL1 : ∀ (A B C D : Blk) (v : Int) (Y : List Blk), listOf (h ++ (A :: B :: C :: D :: (X ++ (⟨.rw, [.i .u64 v], 1⟩ :: Y)))) (.sl (.g (h.length + (X.length + 1 + 1 + 1 + 1))) 0 1 1) = some [v] := fun A B C D v Y =>
    listOf_at (st := .rw) (room := 1) (vs := [v]) (by rw [app_getn]; simp only [q_getS]; rw [List.getElem?_append_right (Nat.le_refl _), Nat.sub_self]; rfl) (fun e => BK.noConfusion e) rfl
  have hL2 : ∀ (A B C D Z : Blk) (v : Int) (Y : List Blk), listOf (h ++ (A :: B :: C :: D :: (X ++ (Z :: ⟨.rw, [.i .u64 v], 1⟩ :: Y)))) (.sl (.g (h.length + (X.length + 1 + 1 + 1 + 1) + 1)) 0 1 1) = some [v] := fun A B C D Z v Y =>
    listOf_at (st := .rw) (room := 1) (vs := [v]) (by rw [Nat.add_assoc, app_getn]; simp only [q_getS]; rw [List.getElem?_append_right (Nat.le_succ _), show X.length.succ - X.length = 1 by omega]; rfl) (fun e => BK.noConfusion e) rfl
  have ha1 : ∀ n c : Nat, apartS (h.length + 1) (.sl (.g (h.length + (X.length + 1 + 1 + 1 + 1))) 0 n c) = True := fun n c => by simp [apartS]
  have ha3 : ∀ n c : Nat, apartS (h.length + 3) (.sl (.g (h.length + (X.length + 1 + 1 + 1 + 1) + 1)) 0 n c) = True := fun n c => by simp [apartS]
  have le1 : ∀ a b : Nat, (a + (b + 1 + 1 + 1 + 1) + 1 ≤ a + (b + 1 + 1 + 1 + 1 + 1)) = True := fun a b => eq_true (by omega)
  have le2 : ∀ a b : Nat, (a + (b + 1 + 1 + 1 + 1) + 2 ≤ a + (b + 1 + 1 + 1 + 1 + 1 + 1)) = True := fun a b => eq_true (by omega)
  have le3 : ∀ a b : Nat, (a + (b + 1 + 1 + 1 + 1) + 2 ≤ a + (b + 2 + 1 + 1 + 1 + 1)) = True := fun a b => eq_true (by omega)
  have hcl : ∀ m2 m3 : M, clean (h.length + (X.length + 1 + 1 + 1 + 1)) (h ++ (MB (h.length + 1) m2 :: MW m2 :: MB (h.length + 3) m3 :: MW m3 :: X)) = true := fun m2 m3 => by
    rw [app_len] at hc
    simp only [List.length_cons] at hc
    simp only [clean, List.all_append, List.all_cons, Bool.and_eq_true] at hc ⊢
    refine ⟨hc.1, ?_, wc_vals _ _ _, ?_, wc_vals _ _ _, hc.2.2.2.2.2⟩
    · simp [MB, vals, S.val, R.val]
    · simp [MB, vals, S.val, R.val]
  simp (config := { maxSteps := 10000000 }) only [EV1, EV2, EV3, EV4, EV5, EV6, addT, istep, lenR_sl, lenR_ns, lenR_es, pickR, putD, bin1R, un1R, slcR, bnd, capsOf, fillP, S_plain, V_plain, V.cells, S_known, V_known, C.v, blk, setL, setH, eqS, eq1, cmpS, cmp1, isNil, popTo, killT, setT, leT, V.below, C.below, S_below, R.below, V.val, C.val, S_val, R.val, R.takes, vals, shows, List.any_cons, List.any_nil, unnamed, V.kill, V.names, C.names, S_names, R.names, List.set, List.replicate, ↓q_cond_t, ↓q_cond_f, if_true, if_false, reduceCtorEq, rvals, rvC, result, C_known, V.noL, C.noL, S_noL, R.noL, Option.map, true_and, and_true, ge_iff_le, gt_iff_lt, implies_true, q_ite_t, q_ite_f, beq_iff_eq, bne_iff_ne, q_ne, Nat.reduceAdd, Nat.reducePow, Int.reducePow, Nat.reduceMul, Nat.reduceSub, Nat.reduceLeDiff, Nat.reduceLT, Nat.reduceEqDiff, Int.reduceNeg, Int.reduceLT, Int.reduceLE, Int.reduceEq, Int.reduceNe, Int.reduceAdd, Int.reduceSub, Int.reduceMul, Int.reduceToNat, Int.reduceBEq, Int.reduceBNe, df42, ↓hlen]
  refine loop_rule (α := Nat × M) [6, 7, 8, 9, 10, 11, 12, 13, 14, 15, 16, 17, 18, 19, 20, 21, 22, 23, 24, 25, 26, 27, 28, 29, 30, 31, 32, 33, 34, 35, 36, 37, 38, 39, 40, 41, 42, 43, 44, 45, 46, 47, 48, 49, 50, 51, 52, 53, 54, 55, 56, 57, 58, 59, 60, 61, 62] (fun y => [(7, .s (.i .i64 y.1))]) (fun _ => []) (fun y => h ++ (MB (h.length + 1) y.2 :: MW y.2 :: MB (h.length + 3) y.2 :: MW y.2 :: X))
    (fun y => y.1 ≤ L.length ∧ m.laid L = y.2.laid (L.drop y.1)) (fun y => L.length - y.1) (0, m) ⟨Nat.zero_le _, rfl⟩ ?_ ?_
  · refine Wk.same rfl rfl ?_
    simp (config := { maxSteps := 10000000 }) only [EV1, EV2, EV3, EV4, EV5, EV6, addT, istep, lenR_sl, lenR_ns, lenR_es, pickR, putD, bin1R, un1R, slcR, bnd, capsOf, fillP, S_plain, V_plain, V.cells, S_known, V_known, C.v, blk, setL, setH, eqS, eq1, cmpS, cmp1, isNil, popTo, killT, setT, leT, V.below, C.below, S_below, R.below, V.val, C.val, S_val, R.val, R.takes, vals, shows, List.any_cons, List.any_nil, unnamed, V.kill, V.names, C.names, S_names, R.names, List.set, List.replicate, ↓q_cond_t, ↓q_cond_f, if_true, if_false, reduceCtorEq, rvals, rvC, result, C_known, V.noL, C.noL, S_noL, R.noL, Option.map, true_and, and_true, ge_iff_le, gt_iff_lt, implies_true, q_ite_t, q_ite_f, beq_iff_eq, bne_iff_ne, q_ne, Nat.reduceAdd, Nat.reducePow, Int.reducePow, Nat.reduceMul, Nat.reduceSub, Nat.reduceLeDiff, Nat.reduceLT, Nat.reduceEqDiff, Int.reduceNeg, Int.reduceLT, Int.reduceLE, Int.reduceEq, Int.reduceNe, Int.reduceAdd, Int.reduceSub, Int.reduceMul, Int.reduceToNat, Int.reduceBEq, Int.reduceBNe, q_cast, Int.natCast_zero]
  · rintro Y ⟨i, m1⟩ ⟨hi, hF⟩ IH
    simp only at hi hF IH ⊢
    rcases Nat.lt_or_ge i L.length with h1 | h1
    · obtain ⟨d1, d2, d3, d4⟩ := idx h1 (by omega)
      obtain ⟨j, c', st, room, hse, hj, hd⟩ := (HL (MB (h.length + 1) m1) (MW m1) (MB (h.length + 3) m1) (MW m1)).at h1
      have hj : ∀ A B C D : Blk, (h ++ (A :: B :: C :: D :: X))[j]? = some ⟨st, arr Wd.c L, room⟩ := fun A B C D => by
        obtain ⟨x, L', hx⟩ : ∃ x L', L = x :: L' := by
          cases L with
          | nil => simp at h1
          | cons x L' => exact ⟨x, L', rfl⟩
        rcases Nat.lt_or_ge j h.length with hlt | hge
        · rw [List.getElem?_append_left hlt] at hj ⊢
          exact hj
        · obtain ⟨q, rfl⟩ : ∃ q, j = h.length + q := ⟨j - h.length, by omega⟩
          rw [app_getn] at hj ⊢
          match q, hj with
          | 0, hj => simp [MB, hx, arr, Wd.c] at hj
          | 1, hj =>
            exfalso
            simp only [q_getS, q_get0, Option.some.injEq, MW, hx, arr, Wd.c, List.cons_append] at hj
            have := congrArg (fun b => b.cells.head?) hj
            simp only [List.head?_cons] at this
            cases hw : m1.w with
            | nil => rw [hw] at this; simp [wc] at this
            | cons y w => rw [hw] at this; simp [wc] at this
          | 2, hj => simp [MB, hx, arr, Wd.c] at hj
          | 3, hj =>
            exfalso
            simp only [q_getS, q_get0, Option.some.injEq, MW, hx, arr, Wd.c, List.cons_append] at hj
            have := congrArg (fun b => b.cells.head?) hj
            simp only [List.head?_cons] at this
            cases hw : m1.w with
            | nil => rw [hw] at this; simp [wc] at this
            | cons y w => rw [hw] at this; simp [wc] at this
          | q + 4, hj => exact hj
      have hkl : j < (h ++ (MB (h.length + 1) m1 :: MW m1 :: MB (h.length + 3) m1 :: MW m1 :: X)).length := (List.getElem?_eq_some_iff.1 (hj _ _ _ _)).1
      obtain ⟨o, ho⟩ : ∃ o, nth wdZ L i = o := ⟨_, rfl⟩
      have hou : u64 o.w := by rw [← ho]; exact hu _ (nth_mem h1)
      have hdr : L.drop i = o :: L.drop (i + 1) := by rw [List.drop_eq_getElem_cons h1, ← ho, nth_eq h1]
      rw [hdr, M.laid] at hF
      have g0 : (arr Wd.c L)[i * 7]? = some (.i .i64 o.addr) := by rw [arr_get0 Wd.c_len h1 (by omega), ← nth_eq (d := wdZ) h1, ho]; rfl
      have g5 : (arr Wd.c L)[i * 7 + 5]? = some (.b o.raw) := by rw [arr_get Wd.c_len h1 (by omega), ← nth_eq (d := wdZ) h1, ho]; rfl
      have g6 : (arr Wd.c L)[i * 7 + 6]? = some (.i .u64 o.w) := by rw [arr_get Wd.c_len h1 (by omega), ← nth_eq (d := wdZ) h1, ho]; rfl
      have g1 : sub (arr Wd.c L) (i * 7 + 1) 4 = o.e.c := by
        have : sub (arr Wd.c L) (i * 7) 7 = o.c := by rw [← ho, nth_eq h1]; exact arr_sub Wd.c_len h1
        have e2 := congrArg (fun l => sub l 1 4) this
        simp only [sub, List.drop_take, List.drop_drop] at e2
        rw [sub]
        rw [List.take_take] at e2
        exact e2
      have gl : i * 7 + 1 + 4 ≤ (arr Wd.c L).length := by
        rw [arr_length Wd.c_len]
        have : (i + 1) * 7 ≤ L.length * 7 := Nat.mul_le_mul_right _ h1
        omega
      have z2 : L.length - (i + 1) < L.length - i := by omega
      have lod : ∀ v : Int, u64 v → (m1.loadX o.addr [v], m1.loadE o.addr [v]) = (m1.loadX o.addr [v], m1.loadE o.addr [v]) := fun _ _ => rfl
      have fin : ∀ v : Int, u64 v → o.on = true → o.word = v → ∃ m2, m1.loadX o.addr [v] = m2 ∧ m.laid L = m2.laid (L.drop (i + 1)) := fun v _ e1 e2 => ⟨_, rfl, by rw [hF, M.laid1, e1, e2]; rfl⟩
      obtain ⟨E, hE⟩ : ∃ E, o.e = E := ⟨_, rfl⟩
      cases hr : o.raw with
      | true =>
        obtain ⟨m2, hm2, hF2⟩ := fin o.w hou (by rw [Wd.on, hr]; rfl) (by rw [Wd.word, hr]; rfl)
        have uu : ∀ v, v ∈ [o.w] → u64 v := fun v hv => by rw [List.mem_singleton.1 hv]; exact hou
        rw [hr] at g5
        refine run_sound (Tab.ok_Γ _) 300 _ _ _ _ ?_
        simp (config := { maxSteps := 10000000 }) only [EV1, EV2, EV3, EV4, EV5, EV6, addT, istep, lenR_sl, lenR_ns, lenR_es, pickR, putD, bin1R, un1R, slcR, bnd, capsOf, fillP, S_plain, V_plain, V.cells, S_known, V_known, C.v, blk, setL, setH, eqS, eq1, cmpS, cmp1, isNil, popTo, killT, setT, leT, V.below, C.below, S_below, R.below, V.val, C.val, S_val, R.val, R.takes, vals, shows, List.any_cons, List.any_nil, unnamed, V.kill, V.names, C.names, S_names, R.names, List.set, List.replicate, ↓q_cond_t, ↓q_cond_f, if_true, if_false, reduceCtorEq, rvals, rvC, result, C_known, V.noL, C.noL, S_noL, R.noL, Option.map, true_and, and_true, ge_iff_le, gt_iff_lt, implies_true, q_ite_t, q_ite_f, beq_iff_eq, bne_iff_ne, q_ne, Nat.reduceAdd, Nat.reducePow, Int.reducePow, Nat.reduceMul, Nat.reduceSub, Nat.reduceLeDiff, Nat.reduceLT, Nat.reduceEqDiff, Int.reduceNeg, Int.reduceLT, Int.reduceLE, Int.reduceEq, Int.reduceNe, Int.reduceAdd, Int.reduceSub, Int.reduceMul, Int.reduceToNat, Int.reduceBEq, Int.reduceBNe, TwL, hse, d1, d2, d3, d4, hj, hd, g0, g5, g6, put, fillP, load2G, R.lend, R.unlend, S_ren, C.ren, V.ren, app_taken, app_dropn, app_take0, app_drop0, List.take_succ_cons, List.take_zero, List.drop_succ_cons, List.drop_zero, Nat.not_lt_zero, Nat.lt_irrefl, Nat.add_sub_cancel_left, Nat.not_lt, Nat.le_add_right, List.take_left, List.drop_left, Blk.ren, app_len, memAt_0, memAt_2, hL1, hL2, ha1, ha3, at0_set, at2_set, hcl, hm2, le1, le2, le3]
        refine ⟨uu, uu, ?_⟩
        refine IH (i + 1, m2) _ z2 ⟨h1, hF2⟩ (Wk.keep 0 rfl rfl ?_ ?_ rfl)
        · simp (config := { maxSteps := 10000000 }) only [EV1, EV2, EV3, EV4, EV5, EV6, addT, istep, lenR_sl, lenR_ns, lenR_es, pickR, putD, bin1R, un1R, slcR, bnd, capsOf, fillP, S_plain, V_plain, V.cells, S_known, V_known, C.v, blk, setL, setH, eqS, eq1, cmpS, cmp1, isNil, popTo, killT, setT, leT, V.below, C.below, S_below, R.below, V.val, C.val, S_val, R.val, R.takes, vals, shows, List.any_cons, List.any_nil, unnamed, V.kill, V.names, C.names, S_names, R.names, List.set, List.replicate, ↓q_cond_t, ↓q_cond_f, if_true, if_false, reduceCtorEq, rvals, rvC, result, C_known, V.noL, C.noL, S_noL, R.noL, Option.map, true_and, and_true, ge_iff_le, gt_iff_lt, implies_true, q_ite_t, q_ite_f, beq_iff_eq, bne_iff_ne, q_ne, Nat.reduceAdd, Nat.reducePow, Int.reducePow, Nat.reduceMul, Nat.reduceSub, Nat.reduceLeDiff, Nat.reduceLT, Nat.reduceEqDiff, Int.reduceNeg, Int.reduceLT, Int.reduceLE, Int.reduceEq, Int.reduceNe, Int.reduceAdd, Int.reduceSub, Int.reduceMul, Int.reduceToNat, Int.reduceBEq, Int.reduceBNe, hse]
        · simp (config := { maxSteps := 10000000 }) only [EV1, EV2, EV3, EV4, EV5, EV6, addT, istep, lenR_sl, lenR_ns, lenR_es, pickR, putD, bin1R, un1R, slcR, bnd, capsOf, fillP, S_plain, V_plain, V.cells, S_known, V_known, C.v, blk, setL, setH, eqS, eq1, cmpS, cmp1, isNil, popTo, killT, setT, leT, V.below, C.below, S_below, R.below, V.val, C.val, S_val, R.val, R.takes, vals, shows, List.any_cons, List.any_nil, unnamed, V.kill, V.names, C.names, S_names, R.names, List.set, List.replicate, ↓q_cond_t, ↓q_cond_f, if_true, if_false, reduceCtorEq, rvals, rvC, result, C_known, V.noL, C.noL, S_noL, R.noL, Option.map, true_and, and_true, ge_iff_le, gt_iff_lt, implies_true, q_ite_t, q_ite_f, beq_iff_eq, bne_iff_ne, q_ne, Nat.reduceAdd, Nat.reducePow, Int.reducePow, Nat.reduceMul, Nat.reduceSub, Nat.reduceLeDiff, Nat.reduceLT, Nat.reduceEqDiff, Int.reduceNeg, Int.reduceLT, Int.reduceLE, Int.reduceEq, Int.reduceNe, Int.reduceAdd, Int.reduceSub, Int.reduceMul, Int.reduceToNat, Int.reduceBEq, Int.reduceBNe, hse]
      | false =>
        rw [hr] at g5
        cases hm : o.e.may with
        | true =>
          have hwu := (En.w_uu hm).1
          obtain ⟨m2, hm2, hF2⟩ := fin o.e.w hwu (by rw [Wd.on, hm, Bool.or_true]) (by rw [Wd.word, hr]; rfl)
          have uu : ∀ v, v ∈ [o.e.w] → u64 v := fun v hv => by rw [List.mem_singleton.1 hv]; exact hwu
          refine run_sound (Tab.ok_Γ _) 300 _ _ _ _ ?_
          simp (config := { maxSteps := 10000000 }) only [EV1, EV2, EV3, EV4, EV5, EV6, addT, istep, lenR_sl, lenR_ns, lenR_es, pickR, putD, bin1R, un1R, slcR, bnd, capsOf, fillP, S_plain, V_plain, V.cells, S_known, V_known, C.v, blk, setL, setH, eqS, eq1, cmpS, cmp1, isNil, popTo, killT, setT, leT, V.below, C.below, S_below, R.below, V.val, C.val, S_val, R.val, R.takes, vals, shows, List.any_cons, List.any_nil, unnamed, V.kill, V.names, C.names, S_names, R.names, List.set, List.replicate, ↓q_cond_t, ↓q_cond_f, if_true, if_false, reduceCtorEq, rvals, rvC, result, C_known, V.noL, C.noL, S_noL, R.noL, Option.map, true_and, and_true, ge_iff_le, gt_iff_lt, implies_true, q_ite_t, q_ite_f, beq_iff_eq, bne_iff_ne, q_ne, Nat.reduceAdd, Nat.reducePow, Int.reducePow, Nat.reduceMul, Nat.reduceSub, Nat.reduceLeDiff, Nat.reduceLT, Nat.reduceEqDiff, Int.reduceNeg, Int.reduceLT, Int.reduceLE, Int.reduceEq, Int.reduceNe, Int.reduceAdd, Int.reduceSub, Int.reduceMul, Int.reduceToNat, Int.reduceBEq, Int.reduceBNe, TwL, hse, d1, d2, d3, d4, hj, hd, g0, g5, g6, g1, gl, encEG, enF, En.c, en_eta, hm, put, fillP, load2G, R.lend, R.unlend, S_ren, C.ren, V.ren, app_taken, app_dropn, app_take0, app_drop0, List.take_succ_cons, List.take_zero, List.drop_succ_cons, List.drop_zero, Nat.not_lt_zero, Nat.lt_irrefl, Nat.add_sub_cancel_left, Nat.not_lt, Nat.le_add_right, List.take_left, List.drop_left, Blk.ren, app_len, memAt_0, memAt_2, hL1, hL2, ha1, ha3, at0_set, at2_set, hcl, hm2, le1, le2, le3]
          refine ⟨uu, uu, ?_⟩
          refine IH (i + 1, m2) _ z2 ⟨h1, hF2⟩ (Wk.keep 0 rfl rfl ?_ ?_ rfl)
          · simp (config := { maxSteps := 10000000 }) only [EV1, EV2, EV3, EV4, EV5, EV6, addT, istep, lenR_sl, lenR_ns, lenR_es, pickR, putD, bin1R, un1R, slcR, bnd, capsOf, fillP, S_plain, V_plain, V.cells, S_known, V_known, C.v, blk, setL, setH, eqS, eq1, cmpS, cmp1, isNil, popTo, killT, setT, leT, V.below, C.below, S_below, R.below, V.val, C.val, S_val, R.val, R.takes, vals, shows, List.any_cons, List.any_nil, unnamed, V.kill, V.names, C.names, S_names, R.names, List.set, List.replicate, ↓q_cond_t, ↓q_cond_f, if_true, if_false, reduceCtorEq, rvals, rvC, result, C_known, V.noL, C.noL, S_noL, R.noL, Option.map, true_and, and_true, ge_iff_le, gt_iff_lt, implies_true, q_ite_t, q_ite_f, beq_iff_eq, bne_iff_ne, q_ne, Nat.reduceAdd, Nat.reducePow, Int.reducePow, Nat.reduceMul, Nat.reduceSub, Nat.reduceLeDiff, Nat.reduceLT, Nat.reduceEqDiff, Int.reduceNeg, Int.reduceLT, Int.reduceLE, Int.reduceEq, Int.reduceNe, Int.reduceAdd, Int.reduceSub, Int.reduceMul, Int.reduceToNat, Int.reduceBEq, Int.reduceBNe, hse]
          · simp (config := { maxSteps := 10000000 }) only [EV1, EV2, EV3, EV4, EV5, EV6, addT, istep, lenR_sl, lenR_ns, lenR_es, pickR, putD, bin1R, un1R, slcR, bnd, capsOf, fillP, S_plain, V_plain, V.cells, S_known, V_known, C.v, blk, setL, setH, eqS, eq1, cmpS, cmp1, isNil, popTo, killT, setT, leT, V.below, C.below, S_below, R.below, V.val, C.val, S_val, R.val, R.takes, vals, shows, List.any_cons, List.any_nil, unnamed, V.kill, V.names, C.names, S_names, R.names, List.set, List.replicate, ↓q_cond_t, ↓q_cond_f, if_true, if_false, reduceCtorEq, rvals, rvC, result, C_known, V.noL, C.noL, S_noL, R.noL, Option.map, true_and, and_true, ge_iff_le, gt_iff_lt, implies_true, q_ite_t, q_ite_f, beq_iff_eq, bne_iff_ne, q_ne, Nat.reduceAdd, Nat.reducePow, Int.reducePow, Nat.reduceMul, Nat.reduceSub, Nat.reduceLeDiff, Nat.reduceLT, Nat.reduceEqDiff, Int.reduceNeg, Int.reduceLT, Int.reduceLE, Int.reduceEq, Int.reduceNe, Int.reduceAdd, Int.reduceSub, Int.reduceMul, Int.reduceToNat, Int.reduceBEq, Int.reduceBNe, hse]
        | false =>
          have hF2 : m.laid L = m1.laid (L.drop (i + 1)) := by rw [hF, M.laid1, Wd.on, hr, hm]; rfl
          refine run_sound (Tab.ok_Γ _) 300 _ _ _ _ ?_
          simp (config := { maxSteps := 10000000 }) only [EV1, EV2, EV3, EV4, EV5, EV6, addT, istep, lenR_sl, lenR_ns, lenR_es, pickR, putD, bin1R, un1R, slcR, bnd, capsOf, fillP, S_plain, V_plain, V.cells, S_known, V_known, C.v, blk, setL, setH, eqS, eq1, cmpS, cmp1, isNil, popTo, killT, setT, leT, V.below, C.below, S_below, R.below, V.val, C.val, S_val, R.val, R.takes, vals, shows, List.any_cons, List.any_nil, unnamed, V.kill, V.names, C.names, S_names, R.names, List.set, List.replicate, ↓q_cond_t, ↓q_cond_f, if_true, if_false, reduceCtorEq, rvals, rvC, result, C_known, V.noL, C.noL, S_noL, R.noL, Option.map, true_and, and_true, ge_iff_le, gt_iff_lt, implies_true, q_ite_t, q_ite_f, beq_iff_eq, bne_iff_ne, q_ne, Nat.reduceAdd, Nat.reducePow, Int.reducePow, Nat.reduceMul, Nat.reduceSub, Nat.reduceLeDiff, Nat.reduceLT, Nat.reduceEqDiff, Int.reduceNeg, Int.reduceLT, Int.reduceLE, Int.reduceEq, Int.reduceNe, Int.reduceAdd, Int.reduceSub, Int.reduceMul, Int.reduceToNat, Int.reduceBEq, Int.reduceBNe, TwL, hse, d1, d2, d3, d4, hj, hd, g0, g5, g6, g1, gl, encEG, enF, En.c, en_eta, hm, put, fillP, load2G, R.lend, R.unlend, S_ren, C.ren, V.ren, app_taken, app_dropn, app_take0, app_drop0, List.take_succ_cons, List.take_zero, List.drop_succ_cons, List.drop_zero, Nat.not_lt_zero, Nat.lt_irrefl, Nat.add_sub_cancel_left, Nat.not_lt, Nat.le_add_right, List.take_left, List.drop_left, Blk.ren, app_len, memAt_0, memAt_2, hL1, hL2, ha1, ha3, at0_set, at2_set, hcl]
          refine IH (i + 1, m1) _ z2 ⟨h1, hF2⟩ (Wk.same rfl rfl ?_)
          simp (config := { maxSteps := 10000000 }) only [EV1, EV2, EV3, EV4, EV5, EV6, addT, istep, lenR_sl, lenR_ns, lenR_es, pickR, putD, bin1R, un1R, slcR, bnd, capsOf, fillP, S_plain, V_plain, V.cells, S_known, V_known, C.v, blk, setL, setH, eqS, eq1, cmpS, cmp1, isNil, popTo, killT, setT, leT, V.below, C.below, S_below, R.below, V.val, C.val, S_val, R.val, R.takes, vals, shows, List.any_cons, List.any_nil, unnamed, V.kill, V.names, C.names, S_names, R.names, List.set, List.replicate, ↓q_cond_t, ↓q_cond_f, if_true, if_false, reduceCtorEq, rvals, rvC, result, C_known, V.noL, C.noL, S_noL, R.noL, Option.map, true_and, and_true, ge_iff_le, gt_iff_lt, implies_true, q_ite_t, q_ite_f, beq_iff_eq, bne_iff_ne, q_ne, Nat.reduceAdd, Nat.reducePow, Int.reducePow, Nat.reduceMul, Nat.reduceSub, Nat.reduceLeDiff, Nat.reduceLT, Nat.reduceEqDiff, Int.reduceNeg, Int.reduceLT, Int.reduceLE, Int.reduceEq, Int.reduceNe, Int.reduceAdd, Int.reduceSub, Int.reduceMul, Int.reduceToNat, Int.reduceBEq, Int.reduceBNe, hse]
    · have e : i = L.length := by omega
      subst e
      rw [List.drop_length, M.laid] at hF
      rw [hF] at hR
      refine run_sound (Tab.ok_Γ _) 300 _ _ _ _ ?_
      simp (config := { maxSteps := 10000000 }) only [EV1, EV2, EV3, EV4, EV5, EV6, addT, istep, lenR_sl, lenR_ns, lenR_es, pickR, putD, bin1R, un1R, slcR, bnd, capsOf, fillP, S_plain, V_plain, V.cells, S_known, V_known, C.v, blk, setL, setH, eqS, eq1, cmpS, cmp1, isNil, popTo, killT, setT, leT, V.below, C.below, S_below, R.below, V.val, C.val, S_val, R.val, R.takes, vals, shows, List.any_cons, List.any_nil, unnamed, V.kill, V.names, C.names, S_names, R.names, List.set, List.replicate, ↓q_cond_t, ↓q_cond_f, if_true, if_false, reduceCtorEq, rvals, rvC, result, C_known, V.noL, C.noL, S_noL, R.noL, Option.map, true_and, and_true, ge_iff_le, gt_iff_lt, implies_true, q_ite_t, q_ite_f, beq_iff_eq, bne_iff_ne, q_ne, Nat.reduceAdd, Nat.reducePow, Int.reducePow, Nat.reduceMul, Nat.reduceSub, Nat.reduceLeDiff, Nat.reduceLT, Nat.reduceEqDiff, Int.reduceNeg, Int.reduceLT, Int.reduceLE, Int.reduceEq, Int.reduceNe, Int.reduceAdd, Int.reduceSub, Int.reduceMul, Int.reduceToNat, Int.reduceBEq, Int.reduceBNe, ↓hlen, Int.lt_irrefl]
      exact hR
end Go.Proofs.Yteeeidldknlblaa

/- The program's functions of layer 4: what each answers. -/
namespace Go.Proofs.Yteeeidldknlblaa
namespace Tl
open Go.D
set_option linter.all false
set_option maxRecDepth 100000
set_option maxHeartbeats 4000000

structure Ln where
  a : Int
  p : Int
  x : Int
  r : Int
  deriving DecidableEq

def Ln.c (l : Ln) : List S := [.i .i64 l.a, .i .i64 l.p, .i .i64 l.x, .i .i64 l.r]
theorem Ln.c_len (l : Ln) : l.c.length = 4 := rfl
def Ln.z : Ln := ⟨0, 0, 0, 0⟩

/-- Nothing is remembered there. -/
def Ln.nil (l : Ln) : Bool := l.a == 0 && (l.p == 0 && (l.x == 0 && l.r == 0))
def Ln.hit (a p : Int) (l : Ln) : Bool := !l.nil && (l.a == a && l.p == p)

/-- What cells tell. -/
def dec : List S → List Ln
  | .i _ a :: .i _ p :: .i _ x :: .i _ r :: s => ⟨a, p, x, r⟩ :: dec s
  | _ => []
theorem dec_arr : ∀ L : List Ln, dec (arr Ln.c L) = L
  | [] => rfl
  | l :: L => by simp only [arr, Ln.c, List.cons_append, List.nil_append, dec, dec_arr L]

theorem arr_known (L : List Ln) : known (arr Ln.c L) = true := by
  unfold known
  rw [arr_all]
  simp [Ln.c]
theorem arr_below (m : Nat) (L : List Ln) : (arr Ln.c L).all (S.below m) = true := by
  rw [arr_all]
  simp [Ln.c, S.below]
theorem arr_ints (p : S → Bool) (hp : ∀ n, p (.i .i64 n) = true) (L : List Ln) : (arr Ln.c L).all p = true := by
  rw [arr_all]
  simp [Ln.c, hp]

/-- A buffer. -/
def tlbB (L : List Ln) : Blk := ⟨.rw, arr Ln.c L, 32⟩
theorem tlbB_st (L : List Ln) : (tlbB L).st = .rw := rfl
theorem tlbB_cells (L : List Ln) : (tlbB L).cells = arr Ln.c L := rfl
theorem tlbB_room (L : List Ln) : (tlbB L).room = 32 := rfl
/-- A block that is one. -/
def isTlb (B : Blk) : Prop := B = tlbB (dec B.cells) ∧ (dec B.cells).length = 8

theorem isTlb_tlbB (L : List Ln) : isTlb (tlbB L) = (L.length = 8) := by
  simp only [isTlb, tlbB_cells, dec_arr, true_and]

/-- The first entry of a page, counted from i. -/
def atF (a p : Int) : List Ln → Nat → Int
  | [], _ => -1
  | l :: L, i => if l.hit a p then i else atF a p L (i + 1)

def inG : List V → List Blk → Res
  | [.s (.i .i64 n), .s (.i .i64 a), .s (.i .i64 b)], h => .ok (.s (.b (decide (a ≤ n) && decide (n ≤ b)))) [] h
  | _, _ => .bad

theorem in_snd : Snd Try.prog 53 (FSpec.of inG) := snd_run (noT_snd _) mixed Try.func53 dc53 100 fun args h K _ hS => by
  unfold inG at hS
  split at hS
  · rename_i n a b
    rw [spec_ok] at hS
    simp (config := { maxSteps := 10000000 }) only [EV1, EV2, EV3, EV4, EV5, EV6, addT, istep, lenR_sl, lenR_ns, lenR_es, pickR, putD, bin1R, un1R, slcR, bnd, capsOf, fillP, S_plain, V_plain, V.cells, S_known, V_known, C.v, blk, setL, setH, eqS, eq1, cmpS, cmp1, isNil, popTo, killT, setT, leT, V.below, C.below, S_below, R.below, V.val, C.val, S_val, R.val, R.takes, vals, shows, List.any_cons, List.any_nil, unnamed, V.kill, V.names, C.names, S_names, R.names, List.set, List.replicate, ↓q_cond_t, ↓q_cond_f, if_true, if_false, reduceCtorEq, rvals, rvC, result, C_known, V.noL, C.noL, S_noL, R.noL, Option.map, true_and, and_true, ge_iff_le, gt_iff_lt, implies_true, q_ite_t, q_ite_f, beq_iff_eq, bne_iff_ne, q_ne, Nat.reduceAdd, Nat.reducePow, Int.reducePow, Nat.reduceMul, Nat.reduceSub, Nat.reduceLeDiff, Nat.reduceLT, Nat.reduceEqDiff, Int.reduceNeg, Int.reduceLT, Int.reduceLE, Int.reduceEq, Int.reduceNe, Int.reduceAdd, Int.reduceSub, Int.reduceMul, Int.reduceToNat, Int.reduceBEq, Int.reduceBNe, df53]
    exact hS
  · exact hS.elim

def atG : List V → List Blk → Res
  | [.s (.p (.g k) 0), .s (.i .i64 a), .s (.i .i64 p)], h => match h[k]? with
    | some B => .ob (isTlb B) (.ok (.s (.i .i64 (atF a p (dec B.cells) 0))) [] h)
    | none => .bad
  | _, _ => .bad

theorem at_snd : Snd Try.prog 54 (FSpec.of atG) := snd_run (noT_snd _) mixed Try.func54 dc54 100 fun args h K _ hS => by
  unfold atG at hS
  split at hS
  · rename_i k a p
    split at hS
    · rename_i B hk
      obtain ⟨⟨hB, h8⟩, hS⟩ := hS
      generalize dec B.cells = L at *
      subst hB
      rw [spec_ok] at hS
      have hsub : sub (arr Ln.c L) 0 32 = arr Ln.c L := by
        have := arr_subs Ln.c_len L 0 8
        simp only [Nat.zero_mul] at this
        rw [this]; simp [← h8]
      have hlen : (arr Ln.c L).length = 32 := by rw [arr_length Ln.c_len, h8]
      simp (config := { maxSteps := 10000000 }) only [EV1, EV2, EV3, EV4, EV5, EV6, addT, istep, lenR_sl, lenR_ns, lenR_es, pickR, putD, bin1R, un1R, slcR, bnd, capsOf, fillP, S_plain, V_plain, V.cells, S_known, V_known, C.v, blk, setL, setH, eqS, eq1, cmpS, cmp1, isNil, popTo, killT, setT, leT, V.below, C.below, S_below, R.below, V.val, C.val, S_val, R.val, R.takes, vals, shows, List.any_cons, List.any_nil, unnamed, V.kill, V.names, C.names, S_names, R.names, List.set, List.replicate, ↓q_cond_t, ↓q_cond_f, if_true, if_false, reduceCtorEq, rvals, rvC, result, C_known, V.noL, C.noL, S_noL, R.noL, Option.map, true_and, and_true, ge_iff_le, gt_iff_lt, implies_true, q_ite_t, q_ite_f, beq_iff_eq, bne_iff_ne, q_ne, Nat.reduceAdd, Nat.reducePow, Int.reducePow, Nat.reduceMul, Nat.reduceSub, Nat.reduceLeDiff, Nat.reduceLT, Nat.reduceEqDiff, Int.reduceNeg, Int.reduceLT, Int.reduceLE, Int.reduceEq, Int.reduceNe, Int.reduceAdd, Int.reduceSub, Int.reduceMul, Int.reduceToNat, Int.reduceBEq, Int.reduceBNe, df54, hk, hsub, hlen, arr_known, tlbB]
      refine loop_rule (α := Nat) [6, 7, 8, 14, 15, 16, 17, 18, 19, 20, 21, 22, 23, 24, 25, 26, 27, 28, 29, 30, 31, 32, 33] (fun i => [(13, .s (.i .i64 i))]) (fun _ => []) (fun _ => h)
        (fun i => i ≤ 8 ∧ atF a p L 0 = atF a p (L.drop i) i) (fun i => 8 - i) 0 ⟨by omega, rfl⟩ ?_ ?_
      · refine Wk.less ?_
        simp (config := { maxSteps := 10000000 }) only [EV1, EV2, EV3, EV4, EV5, EV6, addT, istep, lenR_sl, lenR_ns, lenR_es, pickR, putD, bin1R, un1R, slcR, bnd, capsOf, fillP, S_plain, V_plain, V.cells, S_known, V_known, C.v, blk, setL, setH, eqS, eq1, cmpS, cmp1, isNil, popTo, killT, setT, leT, V.below, C.below, S_below, R.below, V.val, C.val, S_val, R.val, R.takes, vals, shows, List.any_cons, List.any_nil, unnamed, V.kill, V.names, C.names, S_names, R.names, List.set, List.replicate, ↓q_cond_t, ↓q_cond_f, if_true, if_false, reduceCtorEq, rvals, rvC, result, C_known, V.noL, C.noL, S_noL, R.noL, Option.map, true_and, and_true, ge_iff_le, gt_iff_lt, implies_true, q_ite_t, q_ite_f, beq_iff_eq, bne_iff_ne, q_ne, Nat.reduceAdd, Nat.reducePow, Int.reducePow, Nat.reduceMul, Nat.reduceSub, Nat.reduceLeDiff, Nat.reduceLT, Nat.reduceEqDiff, Int.reduceNeg, Int.reduceLT, Int.reduceLE, Int.reduceEq, Int.reduceNe, Int.reduceAdd, Int.reduceSub, Int.reduceMul, Int.reduceToNat, Int.reduceBEq, Int.reduceBNe, Int.natCast_zero, q_cast]
      · rintro X i ⟨hi, hat⟩ IH
        rcases Nat.lt_or_ge i 8 with hi8 | hi8
        · obtain ⟨l, hl, hl2⟩ : ∃ l : Ln, sub (arr Ln.c L) (i * 4) 4 = [.i .i64 l.a, .i .i64 l.p, .i .i64 l.x, .i .i64 l.r] ∧ L.drop i = l :: L.drop (i + 1) :=
            ⟨L[i]'(by omega), arr_sub Ln.c_len (by omega), List.drop_eq_getElem_cons (by omega)⟩
          have hi8' : (i : Int) < 8 := by omega
          have hle : i * 4 + 4 ≤ 32 := by omega
          have hi0 : (0 : Int) ≤ i := by omega
          have hw : IntKind.i64.wrap ((i : Int) + 1) = ((i + 1 : Nat) : Int) := by rw [wrap64] <;> omega
          refine run_sound (Tab.ok_Γ _) 100 _ _ _ _ ?_
          simp (config := { maxSteps := 10000000 }) only [EV1, EV2, EV3, EV4, EV5, EV6, addT, istep, lenR_sl, lenR_ns, lenR_es, pickR, putD, bin1R, un1R, slcR, bnd, capsOf, fillP, S_plain, V_plain, V.cells, S_known, V_known, C.v, blk, setL, setH, eqS, eq1, cmpS, cmp1, isNil, popTo, killT, setT, leT, V.below, C.below, S_below, R.below, V.val, C.val, S_val, R.val, R.takes, vals, shows, List.any_cons, List.any_nil, unnamed, V.kill, V.names, C.names, S_names, R.names, List.set, List.replicate, ↓q_cond_t, ↓q_cond_f, if_true, if_false, reduceCtorEq, rvals, rvC, result, C_known, V.noL, C.noL, S_noL, R.noL, Option.map, true_and, and_true, ge_iff_le, gt_iff_lt, implies_true, q_ite_t, q_ite_f, beq_iff_eq, bne_iff_ne, q_ne, Nat.reduceAdd, Nat.reducePow, Int.reducePow, Nat.reduceMul, Nat.reduceSub, Nat.reduceLeDiff, Nat.reduceLT, Nat.reduceEqDiff, Int.reduceNeg, Int.reduceLT, Int.reduceLE, Int.reduceEq, Int.reduceNe, Int.reduceAdd, Int.reduceSub, Int.reduceMul, Int.reduceToNat, Int.reduceBEq, Int.reduceBNe, hl, hi8', hlen, hle, hi0, hw]
          rw [hl2, atF] at hat
          have hmiss : l.hit a p = false → atF a p L 0 = atF a p (L.drop (i + 1)) (i + 1) := fun e => by rw [hat, e]; rfl
          refine ⟨fun h1 => ?_, fun h1 => ?_⟩
          · rw [hat] at hS
            have : l.hit a p = true := by
              simp only [Ln.hit, Ln.nil, Bool.and_eq_true, Bool.not_eq_true', beq_iff_eq]
              simpa using h1
            rw [this] at hS
            exact hS
          · refine IH (i + 1) _ (by omega) ⟨by omega, hmiss (by rw [Bool.eq_false_iff]; intro h2; refine h1 ?_; simp only [Ln.hit, Ln.nil, Bool.and_eq_true, Bool.not_eq_true', beq_iff_eq] at h2; simpa using h2)⟩ (Wk.cutJ [_] rfl ?_ ?_ rfl)
            · simp (config := { maxSteps := 10000000 }) only [EV1, EV2, EV3, EV4, EV5, EV6, addT, istep, lenR_sl, lenR_ns, lenR_es, pickR, putD, bin1R, un1R, slcR, bnd, capsOf, fillP, S_plain, V_plain, V.cells, S_known, V_known, C.v, blk, setL, setH, eqS, eq1, cmpS, cmp1, isNil, popTo, killT, setT, leT, V.below, C.below, S_below, R.below, V.val, C.val, S_val, R.val, R.takes, vals, shows, List.any_cons, List.any_nil, unnamed, V.kill, V.names, C.names, S_names, R.names, List.set, List.replicate, ↓q_cond_t, ↓q_cond_f, if_true, if_false, reduceCtorEq, rvals, rvC, result, C_known, V.noL, C.noL, S_noL, R.noL, Option.map, true_and, and_true, ge_iff_le, gt_iff_lt, implies_true, q_ite_t, q_ite_f, beq_iff_eq, bne_iff_ne, q_ne, Nat.reduceAdd, Nat.reducePow, Int.reducePow, Nat.reduceMul, Nat.reduceSub, Nat.reduceLeDiff, Nat.reduceLT, Nat.reduceEqDiff, Int.reduceNeg, Int.reduceLT, Int.reduceLE, Int.reduceEq, Int.reduceNe, Int.reduceAdd, Int.reduceSub, Int.reduceMul, Int.reduceToNat, Int.reduceBEq, Int.reduceBNe]
            · simp (config := { maxSteps := 10000000 }) only [EV1, EV2, EV3, EV4, EV5, EV6, addT, istep, lenR_sl, lenR_ns, lenR_es, pickR, putD, bin1R, un1R, slcR, bnd, capsOf, fillP, S_plain, V_plain, V.cells, S_known, V_known, C.v, blk, setL, setH, eqS, eq1, cmpS, cmp1, isNil, popTo, killT, setT, leT, V.below, C.below, S_below, R.below, V.val, C.val, S_val, R.val, R.takes, vals, shows, List.any_cons, List.any_nil, unnamed, V.kill, V.names, C.names, S_names, R.names, List.set, List.replicate, ↓q_cond_t, ↓q_cond_f, if_true, if_false, reduceCtorEq, rvals, rvC, result, C_known, V.noL, C.noL, S_noL, R.noL, Option.map, true_and, and_true, ge_iff_le, gt_iff_lt, implies_true, q_ite_t, q_ite_f, beq_iff_eq, bne_iff_ne, q_ne, Nat.reduceAdd, Nat.reducePow, Int.reducePow, Nat.reduceMul, Nat.reduceSub, Nat.reduceLeDiff, Nat.reduceLT, Nat.reduceEqDiff, Int.reduceNeg, Int.reduceLT, Int.reduceLE, Int.reduceEq, Int.reduceNe, Int.reduceAdd, Int.reduceSub, Int.reduceMul, Int.reduceToNat, Int.reduceBEq, Int.reduceBNe, arr_below]
        · have : i = 8 := by omega
          subst this
          refine run_sound (Tab.ok_Γ _) 100 _ _ _ _ ?_
          simp (config := { maxSteps := 10000000 }) only [EV1, EV2, EV3, EV4, EV5, EV6, addT, istep, lenR_sl, lenR_ns, lenR_es, pickR, putD, bin1R, un1R, slcR, bnd, capsOf, fillP, S_plain, V_plain, V.cells, S_known, V_known, C.v, blk, setL, setH, eqS, eq1, cmpS, cmp1, isNil, popTo, killT, setT, leT, V.below, C.below, S_below, R.below, V.val, C.val, S_val, R.val, R.takes, vals, shows, List.any_cons, List.any_nil, unnamed, V.kill, V.names, C.names, S_names, R.names, List.set, List.replicate, ↓q_cond_t, ↓q_cond_f, if_true, if_false, reduceCtorEq, rvals, rvC, result, C_known, V.noL, C.noL, S_noL, R.noL, Option.map, true_and, and_true, ge_iff_le, gt_iff_lt, implies_true, q_ite_t, q_ite_f, beq_iff_eq, bne_iff_ne, q_ne, Nat.reduceAdd, Nat.reducePow, Int.reducePow, Nat.reduceMul, Nat.reduceSub, Nat.reduceLeDiff, Nat.reduceLT, Nat.reduceEqDiff, Int.reduceNeg, Int.reduceLT, Int.reduceLE, Int.reduceEq, Int.reduceNe, Int.reduceAdd, Int.reduceSub, Int.reduceMul, Int.reduceToNat, Int.reduceBEq, Int.reduceBNe, Int.lt_irrefl, q_cast]
          rw [hat] at hS
          simp only [← h8, List.drop_length, atF] at hS
          exact hS
    · exact hS.elim
  · exact hS.elim

/-- The entry of a page, if there is one. -/
theorem atF_cases (a p : Int) : ∀ (L : List Ln) (i : Nat), atF a p L i = -1 ∨ ∃ j, j < L.length ∧ atF a p L i = ((i + j : Nat) : Int)
  | [], i => .inl rfl
  | l :: L, i => by
    unfold atF
    cases l.hit a p with
    | true => exact .inr ⟨0, by simp, by simp⟩
    | false =>
      rcases atF_cases a p L (i + 1) with e | ⟨j, hj, e⟩
      · left; simpa using e
      · right; refine ⟨j + 1, by simp only [List.length_cons]; omega, ?_⟩
        simp only [Bool.false_eq_true, if_false, e]; omega

def G1 : Tab := addT 53 inG noT
theorem G1_snd : G1.Snd Try.prog := addT_snd ok53 in_snd (noT_snd _)
def G2 : Tab := addT 54 atG G1
theorem G2_snd : G2.Snd Try.prog := addT_snd ok54 at_snd G1_snd

/-! ### New, Find, Fill, Evict, Lines -/
def newG : List V → List Blk → Res
  | [], h => .ok (.s (.p (.g h.length) 0)) [] (h ++ [tlbB (List.replicate 8 Ln.z)])
  | _, _ => .bad

theorem new_snd : Snd Try.prog 14 (FSpec.of newG) := snd_run (noT_snd _) mixed Try.func14 dc14 100 fun args h K _ hS => by
  unfold newG at hS
  split at hS
  · rw [spec_ok] at hS
    simp (config := { maxSteps := 10000000 }) only [EV1, EV2, EV3, EV4, EV5, EV6, addT, istep, lenR_sl, lenR_ns, lenR_es, pickR, putD, bin1R, un1R, slcR, bnd, capsOf, fillP, S_plain, V_plain, V.cells, S_known, V_known, C.v, blk, setL, setH, eqS, eq1, cmpS, cmp1, isNil, popTo, killT, setT, leT, V.below, C.below, S_below, R.below, V.val, C.val, S_val, R.val, R.takes, vals, shows, List.any_cons, List.any_nil, unnamed, V.kill, V.names, C.names, S_names, R.names, List.set, List.replicate, ↓q_cond_t, ↓q_cond_f, if_true, if_false, reduceCtorEq, rvals, rvC, result, C_known, V.noL, C.noL, S_noL, R.noL, Option.map, true_and, and_true, ge_iff_le, gt_iff_lt, implies_true, q_ite_t, q_ite_f, beq_iff_eq, bne_iff_ne, q_ne, Nat.reduceAdd, Nat.reducePow, Int.reducePow, Nat.reduceMul, Nat.reduceSub, Nat.reduceLeDiff, Nat.reduceLT, Nat.reduceEqDiff, Int.reduceNeg, Int.reduceLT, Int.reduceLE, Int.reduceEq, Int.reduceNe, Int.reduceAdd, Int.reduceSub, Int.reduceMul, Int.reduceToNat, Int.reduceBEq, Int.reduceBNe, df14]
    refine ⟨[0], by simp, rfl, ?_⟩
    simp only [getAll, List.getElem?_cons_zero]
    refine ⟨?_, ?_⟩
    · simp [S.kept]
    · exact hS
  · exact hS.elim

def findG : List V → List Blk → Res
  | [.s (.p (.g k) 0), .s (.i .i64 a), .s (.i .i64 p)], h => match h[k]? with
    | some B => .ob (isTlb B) (.br (decide (atF a p (dec B.cells) 0 < 0)) (.ok (.tup [.s (.i .i64 0), .s (.i .i64 0), .s (.b false)]) [] h)
        (.ok (.tup [.s (.i .i64 (nth Ln.z (dec B.cells) (atF a p (dec B.cells) 0).toNat).x), .s (.i .i64 (nth Ln.z (dec B.cells) (atF a p (dec B.cells) 0).toNat).r), .s (.b true)]) [] h))
    | none => .bad
  | _, _ => .bad

theorem find_snd : Snd Try.prog 52 (FSpec.of findG) := snd_run G2_snd mixed Try.func52 dc52 100 fun args h K _ hS => by
  unfold findG at hS
  split at hS
  · rename_i k a p
    split at hS
    · rename_i B hk
      obtain ⟨⟨hB, h8⟩, hS⟩ := hS
      generalize dec B.cells = L at *
      subst hB
      simp only [spec_br, spec_ok] at hS
      rcases atF_cases a p L 0 with e | ⟨j, hj, e⟩
      · rw [e] at hS
        simp (config := { maxSteps := 10000000 }) only [EV1, EV2, EV3, EV4, EV5, EV6, addT, istep, lenR_sl, lenR_ns, lenR_es, pickR, putD, bin1R, un1R, slcR, bnd, capsOf, fillP, S_plain, V_plain, V.cells, S_known, V_known, C.v, blk, setL, setH, eqS, eq1, cmpS, cmp1, isNil, popTo, killT, setT, leT, V.below, C.below, S_below, R.below, V.val, C.val, S_val, R.val, R.takes, vals, shows, List.any_cons, List.any_nil, unnamed, V.kill, V.names, C.names, S_names, R.names, List.set, List.replicate, ↓q_cond_t, ↓q_cond_f, if_true, if_false, reduceCtorEq, rvals, rvC, result, C_known, V.noL, C.noL, S_noL, R.noL, Option.map, true_and, and_true, ge_iff_le, gt_iff_lt, implies_true, q_ite_t, q_ite_f, beq_iff_eq, bne_iff_ne, q_ne, Nat.reduceAdd, Nat.reducePow, Int.reducePow, Nat.reduceMul, Nat.reduceSub, Nat.reduceLeDiff, Nat.reduceLT, Nat.reduceEqDiff, Int.reduceNeg, Int.reduceLT, Int.reduceLE, Int.reduceEq, Int.reduceNe, Int.reduceAdd, Int.reduceSub, Int.reduceMul, Int.reduceToNat, Int.reduceBEq, Int.reduceBNe, df52, G2, G1, atG, hk, isTlb_tlbB, tlbB_cells, dec_arr, e, h8]
        exact hS.1 rfl
      · rw [Nat.zero_add] at e
        have hj8 : j < 8 := by omega
        have hn : ¬ ((j : Int) < 0) := by omega
        have h0 : (0 : Int) ≤ j := by omega
        have hj8' : (j : Int) < 8 := by omega
        have g2 : (arr Ln.c L)[j * 4 + 2]? = some (.i .i64 (nth Ln.z L j).x) := by rw [arr_get Ln.c_len hj (by omega), nth_eq hj]; rfl
        have g3 : (arr Ln.c L)[j * 4 + 3]? = some (.i .i64 (nth Ln.z L j).r) := by rw [arr_get Ln.c_len hj (by omega), nth_eq hj]; rfl
        rw [e] at hS
        have hS := hS.2 (by simp [hn])
        simp (config := { maxSteps := 10000000 }) only [EV1, EV2, EV3, EV4, EV5, EV6, addT, istep, lenR_sl, lenR_ns, lenR_es, pickR, putD, bin1R, un1R, slcR, bnd, capsOf, fillP, S_plain, V_plain, V.cells, S_known, V_known, C.v, blk, setL, setH, eqS, eq1, cmpS, cmp1, isNil, popTo, killT, setT, leT, V.below, C.below, S_below, R.below, V.val, C.val, S_val, R.val, R.takes, vals, shows, List.any_cons, List.any_nil, unnamed, V.kill, V.names, C.names, S_names, R.names, List.set, List.replicate, ↓q_cond_t, ↓q_cond_f, if_true, if_false, reduceCtorEq, rvals, rvC, result, C_known, V.noL, C.noL, S_noL, R.noL, Option.map, true_and, and_true, ge_iff_le, gt_iff_lt, implies_true, q_ite_t, q_ite_f, beq_iff_eq, bne_iff_ne, q_ne, Nat.reduceAdd, Nat.reducePow, Int.reducePow, Nat.reduceMul, Nat.reduceSub, Nat.reduceLeDiff, Nat.reduceLT, Nat.reduceEqDiff, Int.reduceNeg, Int.reduceLT, Int.reduceLE, Int.reduceEq, Int.reduceNe, Int.reduceAdd, Int.reduceSub, Int.reduceMul, Int.reduceToNat, Int.reduceBEq, Int.reduceBNe, df52, G2, G1, atG, hk, isTlb_tlbB, tlbB_cells, tlbB_st, dec_arr, e, h8, hn, h0, hj8', g2, g3, q_cast]
        exact hS
    · exact hS.elim
  · exact hS.elim

/-- May a line be? -/
def Ln.may (l : Ln) : Bool := decide (1 ≤ l.a ∧ l.a ≤ 63 ∧ 0 ≤ l.p ∧ l.p ≤ 4095 ∧ 16 ≤ l.x ∧ l.x ≤ 65520 ∧ l.x % 16 = 0 ∧ 0 ≤ l.r ∧ l.r ≤ 3)
/-- Where a line goes. -/
def slotF (l : Ln) (at_ : Int) (L : List Ln) : Nat := if atF l.a l.p L 0 < 0 then at_.toNat else (atF l.a l.p L 0).toNat
def fillB (l : Ln) (at_ : Int) : Bool := l.may && decide (0 ≤ at_ ∧ at_ ≤ 7)

def fillG : List V → List Blk → Res
  | [.s (.p (.g k) 0), .agg [.i .i64 a, .i .i64 p, .i .i64 x, .i .i64 r], .s (.i .i64 at_)], h => match h[k]? with
    | some B => .ob (isTlb B) (.br (fillB ⟨a, p, x, r⟩ at_) (.ok (.s (.i .i64 0)) [] (h.set k (tlbB ((dec B.cells).set (slotF ⟨a, p, x, r⟩ at_ (dec B.cells)) ⟨a, p, x, r⟩))))
        (.ok (.s (.i .i64 1)) [] h))
    | none => .bad
  | _, _ => .bad

theorem arr_put4 {L : List Ln} {n : Nat} (h : n < L.length) (a p x r : Int) : put (arr Ln.c L) (n * 4) [.i .i64 a, .i .i64 p, .i .i64 x, .i .i64 r] = arr Ln.c (L.set n ⟨a, p, x, r⟩) :=
  arr_put Ln.c_len h ⟨a, p, x, r⟩

theorem fill_snd : Snd Try.prog 15 (FSpec.of fillG) := snd_run G2_snd mixed Try.func15 dc15 200 fun args h K _ hS => by
  unfold fillG at hS
  split at hS
  · rename_i k a p x r at_
    split at hS
    · rename_i B hk
      obtain ⟨⟨hB, h8⟩, hS⟩ := hS
      generalize dec B.cells = L at *
      subst hB
      simp only [spec_br, spec_ok] at hS
      have hb : fillB ⟨a, p, x, r⟩ at_ = true ↔ (1 ≤ a ∧ a ≤ 63) ∧ (0 ≤ p ∧ p ≤ 4095) ∧ (16 ≤ x ∧ x ≤ 65520) ∧ x.tmod 16 = 0 ∧ (0 ≤ r ∧ r ≤ 3) ∧ (0 ≤ at_ ∧ at_ ≤ 7) := by
        simp only [fillB, Ln.may, Bool.and_eq_true, decide_eq_true_eq]
        constructor
        · intro h
          have := Int.tmod_eq_emod_of_nonneg (a := x) (b := 16) (by omega)
          omega
        · intro h
          have := Int.tmod_eq_emod_of_nonneg (a := x) (b := 16) (by omega)
          omega
      have hf : ¬ ((1 ≤ a ∧ a ≤ 63) ∧ (0 ≤ p ∧ p ≤ 4095) ∧ (16 ≤ x ∧ x ≤ 65520) ∧ x.tmod 16 = 0 ∧ (0 ≤ r ∧ r ≤ 3) ∧ (0 ≤ at_ ∧ at_ ≤ 7)) → K (.s (.i .i64 1)) h := fun hn => hS.2 (by
        rw [← Bool.not_eq_true]; exact fun e => hn (hb.1 e))
      have ht : (1 ≤ a ∧ a ≤ 63) ∧ (0 ≤ p ∧ p ≤ 4095) ∧ (16 ≤ x ∧ x ≤ 65520) ∧ x.tmod 16 = 0 ∧ (0 ≤ r ∧ r ≤ 3) ∧ (0 ≤ at_ ∧ at_ ≤ 7) → K (.s (.i .i64 0)) (h.set k (tlbB (L.set (slotF ⟨a, p, x, r⟩ at_ L) ⟨a, p, x, r⟩))) := fun hn => hS.1 (hb.2 hn)
      clear hS
      have hlen : (arr Ln.c L).length = 32 := by rw [arr_length Ln.c_len, h8]
      rcases atF_cases a p L 0 with e | ⟨j, hj, e⟩
      · simp (config := { maxSteps := 10000000 }) only [EV1, EV2, EV3, EV4, EV5, EV6, addT, istep, lenR_sl, lenR_ns, lenR_es, pickR, putD, bin1R, un1R, slcR, bnd, capsOf, fillP, S_plain, V_plain, V.cells, S_known, V_known, C.v, blk, setL, setH, eqS, eq1, cmpS, cmp1, isNil, popTo, killT, setT, leT, V.below, C.below, S_below, R.below, V.val, C.val, S_val, R.val, R.takes, vals, shows, List.any_cons, List.any_nil, unnamed, V.kill, V.names, C.names, S_names, R.names, List.set, List.replicate, ↓q_cond_t, ↓q_cond_f, if_true, if_false, reduceCtorEq, rvals, rvC, result, C_known, V.noL, C.noL, S_noL, R.noL, Option.map, true_and, and_true, ge_iff_le, gt_iff_lt, implies_true, q_ite_t, q_ite_f, beq_iff_eq, bne_iff_ne, q_ne, Nat.reduceAdd, Nat.reducePow, Int.reducePow, Nat.reduceMul, Nat.reduceSub, Nat.reduceLeDiff, Nat.reduceLT, Nat.reduceEqDiff, Int.reduceNeg, Int.reduceLT, Int.reduceLE, Int.reduceEq, Int.reduceNe, Int.reduceAdd, Int.reduceSub, Int.reduceMul, Int.reduceToNat, Int.reduceBEq, Int.reduceBNe, df15, G2, G1, inG, atG, hk, isTlb_tlbB, tlbB_st, tlbB_cells, tlbB_room, dec_arr, e, h8, hlen]
        repeat' (first | refine And.intro ?_ ?_ | intro _)
        all_goals first | exact hf (by omega) | omega | (exfalso; omega) | skip
        refine cast ?_ (ht (by omega))
        rw [arr_put4 (by omega)]
        simp only [slotF, e, Int.reduceNeg, Int.reduceLT, if_true]
        rfl
      · rw [Nat.zero_add] at e
        have hj8 : j < 8 := by omega
        have hn : ¬ ((j : Int) < 0) := by omega
        have h0 : (0 : Int) ≤ j := by omega
        have hj8' : (j : Int) < 8 := by omega
        have hle : j * 4 ≤ 28 := by omega
        have hp := fun a p x r => arr_put4 hj a p x r
        simp (config := { maxSteps := 10000000 }) only [EV1, EV2, EV3, EV4, EV5, EV6, addT, istep, lenR_sl, lenR_ns, lenR_es, pickR, putD, bin1R, un1R, slcR, bnd, capsOf, fillP, S_plain, V_plain, V.cells, S_known, V_known, C.v, blk, setL, setH, eqS, eq1, cmpS, cmp1, isNil, popTo, killT, setT, leT, V.below, C.below, S_below, R.below, V.val, C.val, S_val, R.val, R.takes, vals, shows, List.any_cons, List.any_nil, unnamed, V.kill, V.names, C.names, S_names, R.names, List.set, List.replicate, ↓q_cond_t, ↓q_cond_f, if_true, if_false, reduceCtorEq, rvals, rvC, result, C_known, V.noL, C.noL, S_noL, R.noL, Option.map, true_and, and_true, ge_iff_le, gt_iff_lt, implies_true, q_ite_t, q_ite_f, beq_iff_eq, bne_iff_ne, q_ne, Nat.reduceAdd, Nat.reducePow, Int.reducePow, Nat.reduceMul, Nat.reduceSub, Nat.reduceLeDiff, Nat.reduceLT, Nat.reduceEqDiff, Int.reduceNeg, Int.reduceLT, Int.reduceLE, Int.reduceEq, Int.reduceNe, Int.reduceAdd, Int.reduceSub, Int.reduceMul, Int.reduceToNat, Int.reduceBEq, Int.reduceBNe, df15, G2, G1, inG, atG, hk, isTlb_tlbB, tlbB_st, tlbB_cells, tlbB_room, dec_arr, e, h8, hlen, hn, h0, hj8', hle, hp]
        repeat' (first | refine And.intro ?_ ?_ | intro _)
        all_goals first | exact hf (by omega) | (exfalso; omega) | skip
        refine cast ?_ (ht (by omega))
        simp only [slotF, e, hn, if_false, Int.toNat_natCast]
        rfl
    · exact hS.elim
  · exact hS.elim

def evictG : List V → List Blk → Res
  | [.s (.p (.g k) 0), .s (.i .i64 at_)], h => match h[k]? with
    | some B => .ob (isTlb B) (.br (decide (0 ≤ at_ ∧ at_ ≤ 7)) (.ok (.s (.i .i64 0)) [] (h.set k (tlbB ((dec B.cells).set at_.toNat Ln.z)))) (.ok (.s (.i .i64 1)) [] h))
    | none => .bad
  | _, _ => .bad

theorem evict_snd : Snd Try.prog 16 (FSpec.of evictG) := snd_run G2_snd mixed Try.func16 dc16 100 fun args h K _ hS => by
  unfold evictG at hS
  split at hS
  · rename_i k at_
    split at hS
    · rename_i B hk
      obtain ⟨⟨hB, h8⟩, hS⟩ := hS
      generalize dec B.cells = L at *
      subst hB
      simp only [spec_br, spec_ok, decide_eq_true_eq, decide_eq_false_iff_not] at hS
      have hlen : (arr Ln.c L).length = 32 := by rw [arr_length Ln.c_len, h8]
      simp (config := { maxSteps := 10000000 }) only [EV1, EV2, EV3, EV4, EV5, EV6, addT, istep, lenR_sl, lenR_ns, lenR_es, pickR, putD, bin1R, un1R, slcR, bnd, capsOf, fillP, S_plain, V_plain, V.cells, S_known, V_known, C.v, blk, setL, setH, eqS, eq1, cmpS, cmp1, isNil, popTo, killT, setT, leT, V.below, C.below, S_below, R.below, V.val, C.val, S_val, R.val, R.takes, vals, shows, List.any_cons, List.any_nil, unnamed, V.kill, V.names, C.names, S_names, R.names, List.set, List.replicate, ↓q_cond_t, ↓q_cond_f, if_true, if_false, reduceCtorEq, rvals, rvC, result, C_known, V.noL, C.noL, S_noL, R.noL, Option.map, true_and, and_true, ge_iff_le, gt_iff_lt, implies_true, q_ite_t, q_ite_f, beq_iff_eq, bne_iff_ne, q_ne, Nat.reduceAdd, Nat.reducePow, Int.reducePow, Nat.reduceMul, Nat.reduceSub, Nat.reduceLeDiff, Nat.reduceLT, Nat.reduceEqDiff, Int.reduceNeg, Int.reduceLT, Int.reduceLE, Int.reduceEq, Int.reduceNe, Int.reduceAdd, Int.reduceSub, Int.reduceMul, Int.reduceToNat, Int.reduceBEq, Int.reduceBNe, df16, G2, G1, inG, hk, tlbB_st, tlbB_cells, tlbB_room, h8, hlen]
      refine ⟨fun h1 => by omega, fun h1 => by omega, hS.2, fun h1 => ?_⟩
      have := hS.1 h1
      rw [arr_put4 (by omega)]
      exact this
    · exact hS.elim
  · exact hS.elim

/-- A list of all lines, of its own. -/
def ownB (L : List Ln) : Blk := ⟨.rw, arr Ln.c L, 32⟩

def linesG : List V → List Blk → Res
  | [.s (.p (.g k) 0)], h => match h[k]? with
    | some B => .ob (isTlb B) (.ok (.s (.sl (.g h.length) 0 8 8)) [] (h ++ [ownB (dec B.cells)]))
    | none => .bad
  | _, _ => .bad

theorem put_all : ∀ (vs xs : List S), xs.length = vs.length → put xs 0 vs = vs
  | [], [], _ => rfl
  | v :: vs, x :: xs, e => by rw [put_zero, put_all vs xs (by simpa using e)]
  | [], _ :: _, e => by simp at e
  | _ :: _, [], e => by simp at e

theorem lines_snd : Snd Try.prog 20 (FSpec.of linesG) := snd_run (noT_snd _) mixed Try.func20 dc20 100 fun args h K _ hS => by
  unfold linesG at hS
  split at hS
  · rename_i k
    split at hS
    · rename_i B hk
      obtain ⟨⟨hB, h8⟩, hS⟩ := hS
      generalize dec B.cells = L at *
      subst hB
      rw [spec_ok] at hS
      have hlen : (arr Ln.c L).length = 32 := by rw [arr_length Ln.c_len, h8]
      have hsub : sub (arr Ln.c L) 0 32 = arr Ln.c L := by
        have := arr_subs Ln.c_len L 0 8
        simp only [Nat.zero_mul] at this
        rw [this]; simp [← h8]
      have hv : ∀ n m : Nat, (arr Ln.c L).all (S.val n m) = true := fun n m => arr_ints _ (fun _ => rfl) L
      have ht : (arr Ln.c L).all ((R.l 0).takes h.length 1) = true := arr_ints _ (fun _ => rfl) L
      simp (config := { maxSteps := 10000000 }) only [EV1, EV2, EV3, EV4, EV5, EV6, addT, istep, lenR_sl, lenR_ns, lenR_es, pickR, putD, bin1R, un1R, slcR, bnd, capsOf, fillP, S_plain, V_plain, V.cells, S_known, V_known, C.v, blk, setL, setH, eqS, eq1, cmpS, cmp1, isNil, popTo, killT, setT, leT, V.below, C.below, S_below, R.below, V.val, C.val, S_val, R.val, R.takes, vals, shows, List.any_cons, List.any_nil, unnamed, V.kill, V.names, C.names, S_names, R.names, List.set, List.replicate, ↓q_cond_t, ↓q_cond_f, if_true, if_false, reduceCtorEq, rvals, rvC, result, C_known, V.noL, C.noL, S_noL, R.noL, Option.map, true_and, and_true, ge_iff_le, gt_iff_lt, implies_true, q_ite_t, q_ite_f, beq_iff_eq, bne_iff_ne, q_ne, Nat.reduceAdd, Nat.reducePow, Int.reducePow, Nat.reduceMul, Nat.reduceSub, Nat.reduceLeDiff, Nat.reduceLT, Nat.reduceEqDiff, Int.reduceNeg, Int.reduceLT, Int.reduceLE, Int.reduceEq, Int.reduceNe, Int.reduceAdd, Int.reduceSub, Int.reduceMul, Int.reduceToNat, Int.reduceBEq, Int.reduceBNe, df20, hk, tlbB_st, tlbB_cells, tlbB_room, hlen, hsub, arr_known, ht]
      rw [put_all _ _ (by rw [hlen]; rfl)]
      refine ⟨[0], by simp, rfl, ?_⟩
      simp only [getAll, List.getElem?_cons_zero]
      refine ⟨?_, ?_⟩
      · simp only [List.all_cons, List.all_nil, decide_true, Bool.true_and, Bool.and_true]
        exact arr_ints _ (fun _ => rfl) L
      · refine cast ?_ hS
        congr 2
        simp only [ownB, List.map_cons, List.map_nil, Blk.ren]
        congr 2
        have : ∀ L : List Ln, arr Ln.c L = (arr Ln.c L).map (S.ren (R.prom h.length [0])) := fun L => by
          induction L with
          | nil => rfl
          | cons l L ih => simp only [arr, List.map_append, ← ih]; rfl
        exact this L
    · exact hS.elim
  · exact hS.elim

end Tl
end Go.Proofs.Yteeeidldknlblaa

/- The statement TlbFull: what its Go function answers. -/
namespace Go.Proofs.Yteeeidldknlblaa
namespace Tl
open Go.D
set_option linter.all false
set_option maxRecDepth 100000
set_option maxHeartbeats 4000000

def G3 : Tab := addT 14 newG (addT 15 fillG (addT 52 findG (addT 16 evictG (addT 20 linesG noT))))
theorem G3_snd : G3.Snd Try.prog := addT_snd ok14 new_snd (addT_snd ok15 fill_snd (addT_snd ok52 find_snd (addT_snd ok16 evict_snd (addT_snd ok20 lines_snd (noT_snd _)))))

abbrev z : Ln := Ln.z
def w1 : Ln := ⟨1, 7, 2048, 3⟩
def w2 : Ln := ⟨1, 7, 2064, 1⟩

def awakeG : List V → List Blk → Res
  | [], h => .ok (.s (.b true)) [] (h ++ [tlbB [w2, z, z, z, z, z, z, z], ownB [w2, z, z, z, z, z, z, z]])
  | _, _ => .bad

theorem awake_snd : Snd Try.prog 13 (FSpec.of awakeG) := snd_run G3_snd mixed Try.func13 dc13 300 fun args h K _ hS => by
  unfold awakeG at hS
  split at hS
  · rw [spec_ok] at hS
    have f1 : fillB ⟨1, 7, 2048, 3⟩ 0 = true := by decide
    have f2 : fillB ⟨1, 7, 2064, 1⟩ 5 = true := by decide
    have f3 : fillB ⟨1, 7, 2049, 1⟩ 5 = false := by decide
    have s1 : slotF ⟨1, 7, 2048, 3⟩ 0 [Ln.z, Ln.z, Ln.z, Ln.z, Ln.z, Ln.z, Ln.z, Ln.z] = 0 := by decide
    have s2 : slotF ⟨1, 7, 2064, 1⟩ 5 [⟨1, 7, 2048, 3⟩, Ln.z, Ln.z, Ln.z, Ln.z, Ln.z, Ln.z, Ln.z] = 0 := by decide
    have a1 : atF 1 7 [⟨1, 7, 2048, 3⟩, Ln.z, Ln.z, Ln.z, Ln.z, Ln.z, Ln.z, Ln.z] 0 = 0 := by decide
    have a2 : atF 2 7 [⟨1, 7, 2048, 3⟩, Ln.z, Ln.z, Ln.z, Ln.z, Ln.z, Ln.z, Ln.z] 0 = -1 := by decide
    have g1 : (arr Ln.c [⟨1, 7, 2064, 1⟩, Ln.z, Ln.z, Ln.z, Ln.z, Ln.z, Ln.z, Ln.z])[2]? = some (.i .i64 2064) := rfl
    have g2 : sub (arr Ln.c [⟨1, 7, 2064, 1⟩, Ln.z, Ln.z, Ln.z, Ln.z, Ln.z, Ln.z, Ln.z]) 20 4 = [.i .i64 0, .i .i64 0, .i .i64 0, .i .i64 0] := rfl
    have g3 : (arr Ln.c [⟨1, 7, 2064, 1⟩, Ln.z, Ln.z, Ln.z, Ln.z, Ln.z, Ln.z, Ln.z]).length = 32 := rfl
    simp (config := { maxSteps := 10000000 }) only [EV1, EV2, EV3, EV4, EV5, EV6, addT, istep, lenR_sl, lenR_ns, lenR_es, pickR, putD, bin1R, un1R, slcR, bnd, capsOf, fillP, S_plain, V_plain, V.cells, S_known, V_known, C.v, blk, setL, setH, eqS, eq1, cmpS, cmp1, isNil, popTo, killT, setT, leT, V.below, C.below, S_below, R.below, V.val, C.val, S_val, R.val, R.takes, vals, shows, List.any_cons, List.any_nil, unnamed, V.kill, V.names, C.names, S_names, R.names, List.set, List.replicate, ↓q_cond_t, ↓q_cond_f, if_true, if_false, reduceCtorEq, rvals, rvC, result, C_known, V.noL, C.noL, S_noL, R.noL, Option.map, true_and, and_true, ge_iff_le, gt_iff_lt, implies_true, q_ite_t, q_ite_f, beq_iff_eq, bne_iff_ne, q_ne, Nat.reduceAdd, Nat.reducePow, Int.reducePow, Nat.reduceMul, Nat.reduceSub, Nat.reduceLeDiff, Nat.reduceLT, Nat.reduceEqDiff, Int.reduceNeg, Int.reduceLT, Int.reduceLE, Int.reduceEq, Int.reduceNe, Int.reduceAdd, Int.reduceSub, Int.reduceMul, Int.reduceToNat, Int.reduceBEq, Int.reduceBNe, df13, G3, newG, fillG, findG, linesG, isTlb_tlbB, tlbB_cells, dec_arr, f1, f2, f3, s1, s2, a1, a2, nth, ownB, g1, g2, g3]
    exact hS
  · exact hS.elim

end Tl
end Go.Proofs.Yteeeidldknlblaa

/- Layer 4: the flushes. -/
namespace Go.Proofs.Yteeeidldknlblaa
namespace Tl
open Go.D
set_option linter.all false
set_option maxRecDepth 100000
set_option maxHeartbeats 4000000

/-- What a loop's counter tells. -/
theorem idx {i n : Nat} (h : i < n) (hn : n ≤ 4611686018427387904) : ((i : Int) < (n : Int)) ∧ ((0 : Int) ≤ i) ∧ ¬ ((i : Int) < 0) ∧ IntKind.i64.wrap ((i : Int) + 1) = ((i + 1 : Nat) : Int) := by
  refine ⟨by omega, by omega, by omega, ?_⟩
  rw [wrap64] <;> omega

/-- What cells of lines tell at an entry. -/
theorem Ln.at_ {L : List Ln} {i : Nat} (h : i < L.length) : sub (arr Ln.c L) (i * 4) 4 = [.i .i64 (nth Ln.z L i).a, .i .i64 (nth Ln.z L i).p, .i .i64 (nth Ln.z L i).x, .i .i64 (nth Ln.z L i).r] ∧
    (arr Ln.c L)[i * 4]? = some (.i .i64 (nth Ln.z L i).a) ∧ (arr Ln.c L)[i * 4 + 1]? = some (.i .i64 (nth Ln.z L i).p) ∧ (arr Ln.c L)[i * 4 + 2]? = some (.i .i64 (nth Ln.z L i).x) ∧
    (arr Ln.c L)[i * 4 + 3]? = some (.i .i64 (nth Ln.z L i).r) ∧ i * 4 + 4 ≤ (arr Ln.c L).length ∧ (arr Ln.c L).length = L.length * 4 := by
  rw [nth_eq h]
  refine ⟨arr_sub Ln.c_len h, ?_, ?_, ?_, ?_, ?_, arr_length Ln.c_len L⟩
  · rw [arr_get0 Ln.c_len h (by omega)]; rfl
  · rw [arr_get Ln.c_len h (by omega)]; rfl
  · rw [arr_get Ln.c_len h (by omega)]; rfl
  · rw [arr_get Ln.c_len h (by omega)]; rfl
  · rw [arr_length Ln.c_len]; omega

/-- So many entries are gone through: those of which something holds are forgotten. -/
def sift (w : Ln → Bool) (L : List Ln) (i : Nat) : List Ln := ((L.take i).map fun l => if w l then Ln.z else l) ++ List.replicate (L.length - i) Ln.z
def sieve (w : Ln → Bool) (L : List Ln) : List Ln := L.map fun l => if w l then Ln.z else l

theorem sift_len {w : Ln → Bool} {L : List Ln} {i : Nat} (h : i ≤ L.length) : (sift w L i).length = L.length := by
  simp only [sift, List.length_append, List.length_map, List.length_take, List.length_replicate]; omega
theorem sift_all {w : Ln → Bool} {L : List Ln} : sift w L L.length = sieve w L := by
  simp [sift, sieve]
theorem sift_step {w : Ln → Bool} {L : List Ln} {i : Nat} (h : i < L.length) : sift w L (i + 1) = (sift w L i).set i (if w (nth Ln.z L i) then Ln.z else nth Ln.z L i) := by
  have e : L.length - i = (L.length - (i + 1)) + 1 := by omega
  have hl : ((L.take i).map fun l => if w l then Ln.z else l).length = i := by simp; omega
  unfold sift
  rw [List.take_succ_eq_append_getElem h, List.map_append, e, List.replicate_succ, List.append_assoc]
  conv => rhs; rw [List.set_append_right _ _ (by omega), hl, Nat.sub_self, List.set_cons_zero]
  rw [nth_eq h]; rfl
theorem sift_skip {w : Ln → Bool} {L : List Ln} {i : Nat} (h : i < L.length) (hw : w (nth Ln.z L i) = true) : sift w L (i + 1) = sift w L i := by
  rw [sift_step h, hw, if_pos rfl]
  refine set_same ?_
  unfold sift
  rw [List.getElem?_append_right (by simp; omega)]
  simp only [List.length_map, List.length_take]
  rw [List.getElem?_replicate, if_pos (by omega)]

theorem eqS_arr : ∀ (A B : List Ln), A.length = B.length → eqS (arr Ln.c A) (arr Ln.c B) = decide (A = B)
  | [], [], _ => rfl
  | a :: A, b :: B, h => by
    simp only [arr, Ln.c, List.cons_append, List.nil_append, eqS, eq1, eqS_arr A B (by simpa using h), List.cons.injEq]
    rw [Bool.eq_iff_iff]
    simp only [Bool.and_eq_true, beq_iff_eq, decide_eq_true_eq]
    constructor
    · rintro ⟨h1, h2, h3, h4, h5⟩
      refine ⟨?_, h5⟩
      cases a; cases b; simp_all
    · rintro ⟨rfl, rfl⟩
      exact ⟨rfl, rfl, rfl, rfl, rfl⟩
  | [], _ :: _, h => by simp at h
  | _ :: _, [], h => by simp at h

theorem cmpS_arr : ∀ (A B : List Ln) (n : Nat), A.length = n → B.length = n → cmpS (List.replicate (n * 4) true) (arr Ln.c A) (arr Ln.c B) = true
  | [], [], 0, _, _ => rfl
  | a :: A, b :: B, n + 1, h1, h2 => by
    have e : (n + 1) * 4 = n * 4 + 4 := by omega
    rw [e]
    simp only [List.replicate_succ, arr, Ln.c, List.cons_append, List.nil_append, cmpS, cmp1, decide_true, Bool.true_and]
    exact cmpS_arr A B n (by simpa using h1) (by simpa using h2)
  | [], _, n + 1, h, _ => by simp at h
  | _ :: _, [], n + 1, _, h => by simp at h
  | _ :: _, _, 0, h, _ => by simp at h
  | [], _ :: _, 0, _, h => by simp at h

/-- A function that is asked of each line. -/
def asks (G : Tab) (h : List Blk) (f : FuncId) (cs : List (R × Nat)) (w : Ln → Bool) : Prop :=
  ∀ a p x r : Int, G f (.agg [.i .i64 a, .i .i64 p, .i .i64 x, .i .i64 r] :: cs.map fun x => V.s (.p x.1 x.2)) h = some (.ok (.s (.b (w ⟨a, p, x, r⟩))) [] h)

theorem forget_run {G : Tab} {h : List Blk} {K : V → List Blk → Prop} {k : Nat} {L : List Ln} {f : FuncId} {cs : List (R × Nat)} {w : Ln → Bool} (hk : h[k]? = some (tlbB L)) (h8 : L.length = 8) (hw : asks G h f cs w)
    (hcs : (cs.map fun x => V.s (.p x.1 x.2)).all V.noL = true) (hcv : (cs.map fun x => V.s (.p x.1 x.2)).all V.known = true) (hcb : ∀ m : Nat, (cs.all fun x => x.1.below m) = true) (hS : K (.tup []) (h.set k (tlbB (sieve w L)))) :
    holds G.Γ h.length (finP df55.res K) (run G 100 [.c df55.body] ([V.s (.p (.g k) 0), V.s (.fn f cs)] ++ List.replicate 31 (.tup [])) [] h) := by
  have hlen : (arr Ln.c L).length = 32 := by rw [arr_length Ln.c_len, h8]
  have hsub := sub_all hlen
  have e0 : ∀ X, [(⟨.rw, [.i .i64 0, .i .i64 0, .i .i64 0, .i .i64 0, .i .i64 0, .i .i64 0, .i .i64 0, .i .i64 0, .i .i64 0, .i .i64 0, .i .i64 0, .i .i64 0, .i .i64 0, .i .i64 0, .i .i64 0, .i .i64 0, .i .i64 0, .i .i64 0, .i .i64 0, .i .i64 0, .i .i64 0, .i .i64 0, .i .i64 0, .i .i64 0, .i .i64 0, .i .i64 0, .i .i64 0, .i .i64 0, .i .i64 0, .i .i64 0, .i .i64 0, .i .i64 0], X⟩ : Blk)] = [⟨.rw, arr Ln.c (sift w L 0), X⟩] := fun X => by
    simp only [sift, List.take_zero, List.map_nil, List.nil_append, h8]; rfl
  simp (config := { maxSteps := 10000000 }) only [EV1, EV2, EV3, EV4, EV5, EV6, addT, istep, lenR_sl, lenR_ns, lenR_es, pickR, putD, bin1R, un1R, slcR, bnd, capsOf, fillP, S_plain, V_plain, V.cells, S_known, V_known, C.v, blk, setL, setH, eqS, eq1, cmpS, cmp1, isNil, popTo, killT, setT, leT, V.below, C.below, S_below, R.below, V.val, C.val, S_val, R.val, R.takes, vals, shows, List.any_cons, List.any_nil, unnamed, V.kill, V.names, C.names, S_names, R.names, List.set, List.replicate, ↓q_cond_t, ↓q_cond_f, if_true, if_false, reduceCtorEq, rvals, rvC, result, C_known, V.noL, C.noL, S_noL, R.noL, Option.map, true_and, and_true, ge_iff_le, gt_iff_lt, implies_true, q_ite_t, q_ite_f, beq_iff_eq, bne_iff_ne, q_ne, Nat.reduceAdd, Nat.reducePow, Int.reducePow, Nat.reduceMul, Nat.reduceSub, Nat.reduceLeDiff, Nat.reduceLT, Nat.reduceEqDiff, Int.reduceNeg, Int.reduceLT, Int.reduceLE, Int.reduceEq, Int.reduceNe, Int.reduceAdd, Int.reduceSub, Int.reduceMul, Int.reduceToNat, Int.reduceBEq, Int.reduceBNe, df55, hk, hsub, hlen, arr_known, tlbB]
  rw [e0]
  refine loop_rule (α := Nat) [5, 6, 11, 12, 13, 14, 15, 16, 17, 18, 19, 20, 21, 22] (fun i => [(11, .s (.i .i64 i))]) (fun i => [⟨.rw, arr Ln.c (sift w L i), 32⟩]) (fun _ => h)
    (fun i => i ≤ 8) (fun i => 8 - i) 0 (by omega) ?_ ?_
  · refine Wk.less ?_
    simp (config := { maxSteps := 10000000 }) only [EV1, EV2, EV3, EV4, EV5, EV6, addT, istep, lenR_sl, lenR_ns, lenR_es, pickR, putD, bin1R, un1R, slcR, bnd, capsOf, fillP, S_plain, V_plain, V.cells, S_known, V_known, C.v, blk, setL, setH, eqS, eq1, cmpS, cmp1, isNil, popTo, killT, setT, leT, V.below, C.below, S_below, R.below, V.val, C.val, S_val, R.val, R.takes, vals, shows, List.any_cons, List.any_nil, unnamed, V.kill, V.names, C.names, S_names, R.names, List.set, List.replicate, ↓q_cond_t, ↓q_cond_f, if_true, if_false, reduceCtorEq, rvals, rvC, result, C_known, V.noL, C.noL, S_noL, R.noL, Option.map, true_and, and_true, ge_iff_le, gt_iff_lt, implies_true, q_ite_t, q_ite_f, beq_iff_eq, bne_iff_ne, q_ne, Nat.reduceAdd, Nat.reducePow, Int.reducePow, Nat.reduceMul, Nat.reduceSub, Nat.reduceLeDiff, Nat.reduceLT, Nat.reduceEqDiff, Int.reduceNeg, Int.reduceLT, Int.reduceLE, Int.reduceEq, Int.reduceNe, Int.reduceAdd, Int.reduceSub, Int.reduceMul, Int.reduceToNat, Int.reduceBEq, Int.reduceBNe, Int.natCast_zero]
  · rintro X i hi IH
    rcases Nat.lt_or_ge i 8 with hi8 | hi8
    · have F := idx hi8 (by omega)
      have E := Ln.at_ (L := L) (i := i) (by omega)
      rw [h8] at E
      have hs8 : (sift w L i).length = 8 := by rw [sift_len (by omega), h8]
      have hl32 : (arr Ln.c (sift w L i)).length = 32 := by rw [arr_length Ln.c_len, hs8]
      have hi8' : (i : Int) < 8 := by omega
      have hle : i * 4 + 4 ≤ 32 := by omega
      have hp := fun a p x r => arr_put4 (L := sift w L i) (n := i) (by omega) a p x r
      have hw' := fun a p x r => hw a p x r
      refine run_sound (Tab.ok_Γ _) 100 _ _ _ _ ?_
      simp (config := { maxSteps := 10000000 }) only [EV1, EV2, EV3, EV4, EV5, EV6, addT, istep, lenR_sl, lenR_ns, lenR_es, pickR, putD, bin1R, un1R, slcR, bnd, capsOf, fillP, S_plain, V_plain, V.cells, S_known, V_known, C.v, blk, setL, setH, eqS, eq1, cmpS, cmp1, isNil, popTo, killT, setT, leT, V.below, C.below, S_below, R.below, V.val, C.val, S_val, R.val, R.takes, vals, shows, List.any_cons, List.any_nil, unnamed, V.kill, V.names, C.names, S_names, R.names, List.set, List.replicate, ↓q_cond_t, ↓q_cond_f, if_true, if_false, reduceCtorEq, rvals, rvC, result, C_known, V.noL, C.noL, S_noL, R.noL, Option.map, true_and, and_true, ge_iff_le, gt_iff_lt, implies_true, q_ite_t, q_ite_f, beq_iff_eq, bne_iff_ne, q_ne, Nat.reduceAdd, Nat.reducePow, Int.reducePow, Nat.reduceMul, Nat.reduceSub, Nat.reduceLeDiff, Nat.reduceLT, Nat.reduceEqDiff, Int.reduceNeg, Int.reduceLT, Int.reduceLE, Int.reduceEq, Int.reduceNe, Int.reduceAdd, Int.reduceSub, Int.reduceMul, Int.reduceToNat, Int.reduceBEq, Int.reduceBNe, F, E.1, hlen, hi8', hle, hl32, hw', hcs, hcv, hp]
      have hll : ∀ m, (arr Ln.c (sift w L (i + 1))).all (S.below m) = true := fun m => arr_below m _
      refine ⟨fun hn => IH (i + 1) _ (by omega) (by omega) (Wk.keep 1 ?_ rfl ?_ ?_ ?_), fun hy => IH (i + 1) _ (by omega) (by omega) (Wk.keep 1 ?_ rfl ?_ ?_ ?_)⟩
      · rw [sift_step (by omega), if_neg hn]; rfl
      · simp (config := { maxSteps := 10000000 }) only [EV1, EV2, EV3, EV4, EV5, EV6, addT, istep, lenR_sl, lenR_ns, lenR_es, pickR, putD, bin1R, un1R, slcR, bnd, capsOf, fillP, S_plain, V_plain, V.cells, S_known, V_known, C.v, blk, setL, setH, eqS, eq1, cmpS, cmp1, isNil, popTo, killT, setT, leT, V.below, C.below, S_below, R.below, V.val, C.val, S_val, R.val, R.takes, vals, shows, List.any_cons, List.any_nil, unnamed, V.kill, V.names, C.names, S_names, R.names, List.set, List.replicate, ↓q_cond_t, ↓q_cond_f, if_true, if_false, reduceCtorEq, rvals, rvC, result, C_known, V.noL, C.noL, S_noL, R.noL, Option.map, true_and, and_true, ge_iff_le, gt_iff_lt, implies_true, q_ite_t, q_ite_f, beq_iff_eq, bne_iff_ne, q_ne, Nat.reduceAdd, Nat.reducePow, Int.reducePow, Nat.reduceMul, Nat.reduceSub, Nat.reduceLeDiff, Nat.reduceLT, Nat.reduceEqDiff, Int.reduceNeg, Int.reduceLT, Int.reduceLE, Int.reduceEq, Int.reduceNe, Int.reduceAdd, Int.reduceSub, Int.reduceMul, Int.reduceToNat, Int.reduceBEq, Int.reduceBNe]
      · simp (config := { maxSteps := 10000000 }) only [EV1, EV2, EV3, EV4, EV5, EV6, addT, istep, lenR_sl, lenR_ns, lenR_es, pickR, putD, bin1R, un1R, slcR, bnd, capsOf, fillP, S_plain, V_plain, V.cells, S_known, V_known, C.v, blk, setL, setH, eqS, eq1, cmpS, cmp1, isNil, popTo, killT, setT, leT, V.below, C.below, S_below, R.below, V.val, C.val, S_val, R.val, R.takes, vals, shows, List.any_cons, List.any_nil, unnamed, V.kill, V.names, C.names, S_names, R.names, List.set, List.replicate, ↓q_cond_t, ↓q_cond_f, if_true, if_false, reduceCtorEq, rvals, rvC, result, C_known, V.noL, C.noL, S_noL, R.noL, Option.map, true_and, and_true, ge_iff_le, gt_iff_lt, implies_true, q_ite_t, q_ite_f, beq_iff_eq, bne_iff_ne, q_ne, Nat.reduceAdd, Nat.reducePow, Int.reducePow, Nat.reduceMul, Nat.reduceSub, Nat.reduceLeDiff, Nat.reduceLT, Nat.reduceEqDiff, Int.reduceNeg, Int.reduceLT, Int.reduceLE, Int.reduceEq, Int.reduceNe, Int.reduceAdd, Int.reduceSub, Int.reduceMul, Int.reduceToNat, Int.reduceBEq, Int.reduceBNe, arr_below]
        exact hcb 1
      · simp (config := { maxSteps := 10000000 }) only [EV1, EV2, EV3, EV4, EV5, EV6, addT, istep, lenR_sl, lenR_ns, lenR_es, pickR, putD, bin1R, un1R, slcR, bnd, capsOf, fillP, S_plain, V_plain, V.cells, S_known, V_known, C.v, blk, setL, setH, eqS, eq1, cmpS, cmp1, isNil, popTo, killT, setT, leT, V.below, C.below, S_below, R.below, V.val, C.val, S_val, R.val, R.takes, vals, shows, List.any_cons, List.any_nil, unnamed, V.kill, V.names, C.names, S_names, R.names, List.set, List.replicate, ↓q_cond_t, ↓q_cond_f, if_true, if_false, reduceCtorEq, rvals, rvC, result, C_known, V.noL, C.noL, S_noL, R.noL, Option.map, true_and, and_true, ge_iff_le, gt_iff_lt, implies_true, q_ite_t, q_ite_f, beq_iff_eq, bne_iff_ne, q_ne, Nat.reduceAdd, Nat.reducePow, Int.reducePow, Nat.reduceMul, Nat.reduceSub, Nat.reduceLeDiff, Nat.reduceLT, Nat.reduceEqDiff, Int.reduceNeg, Int.reduceLT, Int.reduceLE, Int.reduceEq, Int.reduceNe, Int.reduceAdd, Int.reduceSub, Int.reduceMul, Int.reduceToNat, Int.reduceBEq, Int.reduceBNe, hll]
      · rw [sift_skip (by omega) hy]; rfl
      · simp (config := { maxSteps := 10000000 }) only [EV1, EV2, EV3, EV4, EV5, EV6, addT, istep, lenR_sl, lenR_ns, lenR_es, pickR, putD, bin1R, un1R, slcR, bnd, capsOf, fillP, S_plain, V_plain, V.cells, S_known, V_known, C.v, blk, setL, setH, eqS, eq1, cmpS, cmp1, isNil, popTo, killT, setT, leT, V.below, C.below, S_below, R.below, V.val, C.val, S_val, R.val, R.takes, vals, shows, List.any_cons, List.any_nil, unnamed, V.kill, V.names, C.names, S_names, R.names, List.set, List.replicate, ↓q_cond_t, ↓q_cond_f, if_true, if_false, reduceCtorEq, rvals, rvC, result, C_known, V.noL, C.noL, S_noL, R.noL, Option.map, true_and, and_true, ge_iff_le, gt_iff_lt, implies_true, q_ite_t, q_ite_f, beq_iff_eq, bne_iff_ne, q_ne, Nat.reduceAdd, Nat.reducePow, Int.reducePow, Nat.reduceMul, Nat.reduceSub, Nat.reduceLeDiff, Nat.reduceLT, Nat.reduceEqDiff, Int.reduceNeg, Int.reduceLT, Int.reduceLE, Int.reduceEq, Int.reduceNe, Int.reduceAdd, Int.reduceSub, Int.reduceMul, Int.reduceToNat, Int.reduceBEq, Int.reduceBNe]
      · simp (config := { maxSteps := 10000000 }) only [EV1, EV2, EV3, EV4, EV5, EV6, addT, istep, lenR_sl, lenR_ns, lenR_es, pickR, putD, bin1R, un1R, slcR, bnd, capsOf, fillP, S_plain, V_plain, V.cells, S_known, V_known, C.v, blk, setL, setH, eqS, eq1, cmpS, cmp1, isNil, popTo, killT, setT, leT, V.below, C.below, S_below, R.below, V.val, C.val, S_val, R.val, R.takes, vals, shows, List.any_cons, List.any_nil, unnamed, V.kill, V.names, C.names, S_names, R.names, List.set, List.replicate, ↓q_cond_t, ↓q_cond_f, if_true, if_false, reduceCtorEq, rvals, rvC, result, C_known, V.noL, C.noL, S_noL, R.noL, Option.map, true_and, and_true, ge_iff_le, gt_iff_lt, implies_true, q_ite_t, q_ite_f, beq_iff_eq, bne_iff_ne, q_ne, Nat.reduceAdd, Nat.reducePow, Int.reducePow, Nat.reduceMul, Nat.reduceSub, Nat.reduceLeDiff, Nat.reduceLT, Nat.reduceEqDiff, Int.reduceNeg, Int.reduceLT, Int.reduceLE, Int.reduceEq, Int.reduceNe, Int.reduceAdd, Int.reduceSub, Int.reduceMul, Int.reduceToNat, Int.reduceBEq, Int.reduceBNe, arr_below]
        exact hcb 1
      · simp (config := { maxSteps := 10000000 }) only [EV1, EV2, EV3, EV4, EV5, EV6, addT, istep, lenR_sl, lenR_ns, lenR_es, pickR, putD, bin1R, un1R, slcR, bnd, capsOf, fillP, S_plain, V_plain, V.cells, S_known, V_known, C.v, blk, setL, setH, eqS, eq1, cmpS, cmp1, isNil, popTo, killT, setT, leT, V.below, C.below, S_below, R.below, V.val, C.val, S_val, R.val, R.takes, vals, shows, List.any_cons, List.any_nil, unnamed, V.kill, V.names, C.names, S_names, R.names, List.set, List.replicate, ↓q_cond_t, ↓q_cond_f, if_true, if_false, reduceCtorEq, rvals, rvC, result, C_known, V.noL, C.noL, S_noL, R.noL, Option.map, true_and, and_true, ge_iff_le, gt_iff_lt, implies_true, q_ite_t, q_ite_f, beq_iff_eq, bne_iff_ne, q_ne, Nat.reduceAdd, Nat.reducePow, Int.reducePow, Nat.reduceMul, Nat.reduceSub, Nat.reduceLeDiff, Nat.reduceLT, Nat.reduceEqDiff, Int.reduceNeg, Int.reduceLT, Int.reduceLE, Int.reduceEq, Int.reduceNe, Int.reduceAdd, Int.reduceSub, Int.reduceMul, Int.reduceToNat, Int.reduceBEq, Int.reduceBNe, hll]
    · have : i = 8 := by omega
      subst this
      have hs8 : (sift w L 8).length = 8 := by rw [sift_len (by omega), h8]
      have hl32 : (arr Ln.c (sift w L 8)).length = 32 := by rw [arr_length Ln.c_len, hs8]
      have hsub2 := sub_all hl32
      have hcmp : cmpS [true, true, true, true, true, true, true, true, true, true, true, true, true, true, true, true, true, true, true, true, true, true, true, true, true, true, true, true, true, true, true, true] (arr Ln.c (sift w L 8)) (arr Ln.c L) = true := cmpS_arr (sift w L 8) L 8 hs8 h8
      have heq := eqS_arr (sift w L 8) L (by rw [hs8, h8])
      have hall : sift w L 8 = sieve w L := by rw [← h8]; exact sift_all
      have hput := put_all (arr Ln.c (sift w L 8)) (arr Ln.c L) (by rw [hl32, hlen])
      have ht : ∀ m, (arr Ln.c (sift w L 8)).all ((R.g k).takes h.length m) = true := fun m => arr_ints _ (fun _ => rfl) _
      refine run_sound (Tab.ok_Γ _) 100 _ _ _ _ ?_
      simp (config := { maxSteps := 10000000 }) only [EV1, EV2, EV3, EV4, EV5, EV6, addT, istep, lenR_sl, lenR_ns, lenR_es, pickR, putD, bin1R, un1R, slcR, bnd, capsOf, fillP, S_plain, V_plain, V.cells, S_known, V_known, C.v, blk, setL, setH, eqS, eq1, cmpS, cmp1, isNil, popTo, killT, setT, leT, V.below, C.below, S_below, R.below, V.val, C.val, S_val, R.val, R.takes, vals, shows, List.any_cons, List.any_nil, unnamed, V.kill, V.names, C.names, S_names, R.names, List.set, List.replicate, ↓q_cond_t, ↓q_cond_f, if_true, if_false, reduceCtorEq, rvals, rvC, result, C_known, V.noL, C.noL, S_noL, R.noL, Option.map, true_and, and_true, ge_iff_le, gt_iff_lt, implies_true, q_ite_t, q_ite_f, beq_iff_eq, bne_iff_ne, q_ne, Nat.reduceAdd, Nat.reducePow, Int.reducePow, Nat.reduceMul, Nat.reduceSub, Nat.reduceLeDiff, Nat.reduceLT, Nat.reduceEqDiff, Int.reduceNeg, Int.reduceLT, Int.reduceLE, Int.reduceEq, Int.reduceNe, Int.reduceAdd, Int.reduceSub, Int.reduceMul, Int.reduceToNat, Int.reduceBEq, Int.reduceBNe, hsub2, hl32, arr_known, hcmp, heq, hk, hsub, hlen, tlbB, hput, ht]
      rw [hall]
      refine ⟨fun _ => hS, fun he => ?_⟩
      rw [he] at hS
      refine cast ?_ hS
      rw [set_self hk]

/-! ### the flushes' own functions -/
def page1G : List V → List Blk → Res
  | [.agg [.i .i64 a, .i .i64 p, .i .i64 _, .i .i64 _], .s (.p (.g i) 0), .s (.p (.g j) 0)], h => match h[i]?, h[j]? with
    | some ⟨.rw, [.i .i64 b], _⟩, some ⟨.rw, [.i .i64 q], _⟩ => .ok (.s (.b (a == b && p == q))) [] h
    | _, _ => .bad
  | _, _ => .bad
theorem page1_snd : Snd Try.prog 56 (FSpec.of page1G) := snd_run (noT_snd _) mixed Try.func56 dc56 100 fun args h K _ hS => by
  unfold page1G at hS
  split at hS
  · split at hS
    · rename_i h1 h2
      rw [spec_ok] at hS
      simp (config := { maxSteps := 10000000 }) only [EV1, EV2, EV3, EV4, EV5, EV6, addT, istep, lenR_sl, lenR_ns, lenR_es, pickR, putD, bin1R, un1R, slcR, bnd, capsOf, fillP, S_plain, V_plain, V.cells, S_known, V_known, C.v, blk, setL, setH, eqS, eq1, cmpS, cmp1, isNil, popTo, killT, setT, leT, V.below, C.below, S_below, R.below, V.val, C.val, S_val, R.val, R.takes, vals, shows, List.any_cons, List.any_nil, unnamed, V.kill, V.names, C.names, S_names, R.names, List.set, List.replicate, ↓q_cond_t, ↓q_cond_f, if_true, if_false, reduceCtorEq, rvals, rvC, result, C_known, V.noL, C.noL, S_noL, R.noL, Option.map, true_and, and_true, ge_iff_le, gt_iff_lt, implies_true, q_ite_t, q_ite_f, beq_iff_eq, bne_iff_ne, q_ne, Nat.reduceAdd, Nat.reducePow, Int.reducePow, Nat.reduceMul, Nat.reduceSub, Nat.reduceLeDiff, Nat.reduceLT, Nat.reduceEqDiff, Int.reduceNeg, Int.reduceLT, Int.reduceLE, Int.reduceEq, Int.reduceNe, Int.reduceAdd, Int.reduceSub, Int.reduceMul, Int.reduceToNat, Int.reduceBEq, Int.reduceBNe, df56, h1, h2]
      exact hS
    · exact hS.elim
  · exact hS.elim

def asid1G : List V → List Blk → Res
  | [.agg [.i .i64 a, .i .i64 _, .i .i64 _, .i .i64 _], .s (.p (.g i) 0)], h => match h[i]? with
    | some ⟨.rw, [.i .i64 b], _⟩ => .ok (.s (.b (a == b))) [] h
    | _ => .bad
  | _, _ => .bad
theorem asid1_snd : Snd Try.prog 57 (FSpec.of asid1G) := snd_run (noT_snd _) mixed Try.func57 dc57 100 fun args h K _ hS => by
  unfold asid1G at hS
  split at hS
  · split at hS
    · rename_i h1
      rw [spec_ok] at hS
      simp (config := { maxSteps := 10000000 }) only [EV1, EV2, EV3, EV4, EV5, EV6, addT, istep, lenR_sl, lenR_ns, lenR_es, pickR, putD, bin1R, un1R, slcR, bnd, capsOf, fillP, S_plain, V_plain, V.cells, S_known, V_known, C.v, blk, setL, setH, eqS, eq1, cmpS, cmp1, isNil, popTo, killT, setT, leT, V.below, C.below, S_below, R.below, V.val, C.val, S_val, R.val, R.takes, vals, shows, List.any_cons, List.any_nil, unnamed, V.kill, V.names, C.names, S_names, R.names, List.set, List.replicate, ↓q_cond_t, ↓q_cond_f, if_true, if_false, reduceCtorEq, rvals, rvC, result, C_known, V.noL, C.noL, S_noL, R.noL, Option.map, true_and, and_true, ge_iff_le, gt_iff_lt, implies_true, q_ite_t, q_ite_f, beq_iff_eq, bne_iff_ne, q_ne, Nat.reduceAdd, Nat.reducePow, Int.reducePow, Nat.reduceMul, Nat.reduceSub, Nat.reduceLeDiff, Nat.reduceLT, Nat.reduceEqDiff, Int.reduceNeg, Int.reduceLT, Int.reduceLE, Int.reduceEq, Int.reduceNe, Int.reduceAdd, Int.reduceSub, Int.reduceMul, Int.reduceToNat, Int.reduceBEq, Int.reduceBNe, df57, h1]
      exact hS
    · exact hS.elim
  · exact hS.elim

def all1G : List V → List Blk → Res
  | [.agg [.i .i64 _, .i .i64 _, .i .i64 _, .i .i64 _]], h => .ok (.s (.b true)) [] h
  | _, _ => .bad
theorem all1_snd : Snd Try.prog 58 (FSpec.of all1G) := snd_run (noT_snd _) mixed Try.func58 dc58 100 fun args h K _ hS => by
  unfold all1G at hS
  split at hS
  · rw [spec_ok] at hS
    simp (config := { maxSteps := 10000000 }) only [EV1, EV2, EV3, EV4, EV5, EV6, addT, istep, lenR_sl, lenR_ns, lenR_es, pickR, putD, bin1R, un1R, slcR, bnd, capsOf, fillP, S_plain, V_plain, V.cells, S_known, V_known, C.v, blk, setL, setH, eqS, eq1, cmpS, cmp1, isNil, popTo, killT, setT, leT, V.below, C.below, S_below, R.below, V.val, C.val, S_val, R.val, R.takes, vals, shows, List.any_cons, List.any_nil, unnamed, V.kill, V.names, C.names, S_names, R.names, List.set, List.replicate, ↓q_cond_t, ↓q_cond_f, if_true, if_false, reduceCtorEq, rvals, rvC, result, C_known, V.noL, C.noL, S_noL, R.noL, Option.map, true_and, and_true, ge_iff_le, gt_iff_lt, implies_true, q_ite_t, q_ite_f, beq_iff_eq, bne_iff_ne, q_ne, Nat.reduceAdd, Nat.reducePow, Int.reducePow, Nat.reduceMul, Nat.reduceSub, Nat.reduceLeDiff, Nat.reduceLT, Nat.reduceEqDiff, Int.reduceNeg, Int.reduceLT, Int.reduceLE, Int.reduceEq, Int.reduceNe, Int.reduceAdd, Int.reduceSub, Int.reduceMul, Int.reduceToNat, Int.reduceBEq, Int.reduceBNe, df58]
    exact hS
  · exact hS.elim

def G5 : Tab := addT 56 page1G (addT 57 asid1G (addT 58 all1G noT))
theorem G5_snd : G5.Snd Try.prog := addT_snd ok56 page1_snd (addT_snd ok57 asid1_snd (addT_snd ok58 all1_snd (noT_snd _)))

def forgetG : List V → List Blk → Res
  | [.s (.p (.g k) 0), .s (.fn 56 [(.g i, 0), (.g j, 0)])], h => match h[k]?, h[i]?, h[j]? with
    | some B, some ⟨.rw, [.i .i64 a], _⟩, some ⟨.rw, [.i .i64 p], _⟩ => .ob (isTlb B) (.ok (.tup []) [] (h.set k (tlbB (sieve (fun l => l.a == a && l.p == p) (dec B.cells)))))
    | _, _, _ => .bad
  | [.s (.p (.g k) 0), .s (.fn 57 [(.g i, 0)])], h => match h[k]?, h[i]? with
    | some B, some ⟨.rw, [.i .i64 a], _⟩ => .ob (isTlb B) (.ok (.tup []) [] (h.set k (tlbB (sieve (fun l => l.a == a) (dec B.cells)))))
    | _, _ => .bad
  | [.s (.p (.g k) 0), .s (.fn 58 [])], h => match h[k]? with
    | some B => .ob (isTlb B) (.ok (.tup []) [] (h.set k (tlbB (sieve (fun _ => true) (dec B.cells)))))
    | _ => .bad
  | _, _ => .bad

theorem forget_snd : Snd Try.prog 55 (FSpec.of forgetG) := snd_run G5_snd mixed Try.func55 dc55 100 fun args h K _ hS => by
  unfold forgetG at hS
  split at hS
  · split at hS
    · rename_i hk h1 h2
      obtain ⟨⟨hB, h8⟩, hS⟩ := hS
      rw [spec_ok] at hS
      rw [hB] at hk
      refine forget_run hk h8 (fun a p x r => ?_) rfl rfl (fun _ => rfl) hS
      simp (config := { maxSteps := 10000000 }) only [EV1, EV2, EV3, EV4, EV5, EV6, addT, istep, lenR_sl, lenR_ns, lenR_es, pickR, putD, bin1R, un1R, slcR, bnd, capsOf, fillP, S_plain, V_plain, V.cells, S_known, V_known, C.v, blk, setL, setH, eqS, eq1, cmpS, cmp1, isNil, popTo, killT, setT, leT, V.below, C.below, S_below, R.below, V.val, C.val, S_val, R.val, R.takes, vals, shows, List.any_cons, List.any_nil, unnamed, V.kill, V.names, C.names, S_names, R.names, List.set, List.replicate, ↓q_cond_t, ↓q_cond_f, if_true, if_false, reduceCtorEq, rvals, rvC, result, C_known, V.noL, C.noL, S_noL, R.noL, Option.map, true_and, and_true, ge_iff_le, gt_iff_lt, implies_true, q_ite_t, q_ite_f, beq_iff_eq, bne_iff_ne, q_ne, Nat.reduceAdd, Nat.reducePow, Int.reducePow, Nat.reduceMul, Nat.reduceSub, Nat.reduceLeDiff, Nat.reduceLT, Nat.reduceEqDiff, Int.reduceNeg, Int.reduceLT, Int.reduceLE, Int.reduceEq, Int.reduceNe, Int.reduceAdd, Int.reduceSub, Int.reduceMul, Int.reduceToNat, Int.reduceBEq, Int.reduceBNe, G5, page1G, h1, h2]
    · exact hS.elim
  · split at hS
    · rename_i hk h1
      obtain ⟨⟨hB, h8⟩, hS⟩ := hS
      rw [spec_ok] at hS
      rw [hB] at hk
      refine forget_run hk h8 (fun a p x r => ?_) rfl rfl (fun _ => rfl) hS
      simp (config := { maxSteps := 10000000 }) only [EV1, EV2, EV3, EV4, EV5, EV6, addT, istep, lenR_sl, lenR_ns, lenR_es, pickR, putD, bin1R, un1R, slcR, bnd, capsOf, fillP, S_plain, V_plain, V.cells, S_known, V_known, C.v, blk, setL, setH, eqS, eq1, cmpS, cmp1, isNil, popTo, killT, setT, leT, V.below, C.below, S_below, R.below, V.val, C.val, S_val, R.val, R.takes, vals, shows, List.any_cons, List.any_nil, unnamed, V.kill, V.names, C.names, S_names, R.names, List.set, List.replicate, ↓q_cond_t, ↓q_cond_f, if_true, if_false, reduceCtorEq, rvals, rvC, result, C_known, V.noL, C.noL, S_noL, R.noL, Option.map, true_and, and_true, ge_iff_le, gt_iff_lt, implies_true, q_ite_t, q_ite_f, beq_iff_eq, bne_iff_ne, q_ne, Nat.reduceAdd, Nat.reducePow, Int.reducePow, Nat.reduceMul, Nat.reduceSub, Nat.reduceLeDiff, Nat.reduceLT, Nat.reduceEqDiff, Int.reduceNeg, Int.reduceLT, Int.reduceLE, Int.reduceEq, Int.reduceNe, Int.reduceAdd, Int.reduceSub, Int.reduceMul, Int.reduceToNat, Int.reduceBEq, Int.reduceBNe, G5, asid1G, h1]
    · exact hS.elim
  · split at hS
    · rename_i hk
      obtain ⟨⟨hB, h8⟩, hS⟩ := hS
      rw [spec_ok] at hS
      rw [hB] at hk
      refine forget_run hk h8 (fun a p x r => ?_) rfl rfl (fun _ => rfl) hS
      simp (config := { maxSteps := 10000000 }) only [EV1, EV2, EV3, EV4, EV5, EV6, addT, istep, lenR_sl, lenR_ns, lenR_es, pickR, putD, bin1R, un1R, slcR, bnd, capsOf, fillP, S_plain, V_plain, V.cells, S_known, V_known, C.v, blk, setL, setH, eqS, eq1, cmpS, cmp1, isNil, popTo, killT, setT, leT, V.below, C.below, S_below, R.below, V.val, C.val, S_val, R.val, R.takes, vals, shows, List.any_cons, List.any_nil, unnamed, V.kill, V.names, C.names, S_names, R.names, List.set, List.replicate, ↓q_cond_t, ↓q_cond_f, if_true, if_false, reduceCtorEq, rvals, rvC, result, C_known, V.noL, C.noL, S_noL, R.noL, Option.map, true_and, and_true, ge_iff_le, gt_iff_lt, implies_true, q_ite_t, q_ite_f, beq_iff_eq, bne_iff_ne, q_ne, Nat.reduceAdd, Nat.reducePow, Int.reducePow, Nat.reduceMul, Nat.reduceSub, Nat.reduceLeDiff, Nat.reduceLT, Nat.reduceEqDiff, Int.reduceNeg, Int.reduceLT, Int.reduceLE, Int.reduceEq, Int.reduceNe, Int.reduceAdd, Int.reduceSub, Int.reduceMul, Int.reduceToNat, Int.reduceBEq, Int.reduceBNe, G5, all1G]
    · exact hS.elim
  · exact hS.elim

def G6 : Tab := addT 55 forgetG noT
theorem G6_snd : G6.Snd Try.prog := addT_snd ok55 forget_snd (noT_snd _)

def flushPageG : List V → List Blk → Res
  | [.s (.p (.g k) 0), .s (.i .i64 a), .s (.i .i64 p)], h => match h[k]? with
    | some B => .ob (isTlb B) (.ok (.tup []) [] (h.set k (tlbB (sieve (fun l => l.a == a && l.p == p) (dec B.cells)))))
    | _ => .bad
  | _, _ => .bad
def flushAsidG : List V → List Blk → Res
  | [.s (.p (.g k) 0), .s (.i .i64 a)], h => match h[k]? with
    | some B => .ob (isTlb B) (.ok (.tup []) [] (h.set k (tlbB (sieve (fun l => l.a == a) (dec B.cells)))))
    | _ => .bad
  | _, _ => .bad
def flushAllG : List V → List Blk → Res
  | [.s (.p (.g k) 0)], h => match h[k]? with
    | some B => .ob (isTlb B) (.ok (.tup []) [] (h.set k (tlbB (sieve (fun _ => true) (dec B.cells)))))
    | _ => .bad
  | _, _ => .bad
theorem flushPage_snd : Snd Try.prog 17 (FSpec.of flushPageG) := snd_run G6_snd mixed Try.func17 dc17 100 fun args h K hc hS => by
  unfold flushPageG at hS
  split at hS
  · rename_i k a p
    split at hS
    · rename_i B hk
      obtain ⟨⟨hB, h8⟩, hS⟩ := hS
      rw [spec_ok] at hS
      generalize dec B.cells = L at *
      subst hB
      have hlt : k < h.length := (List.getElem?_eq_some_iff.1 hk).1
      have hcl : ∀ M : List Ln, clean h.length (h.set k (tlbB M)) = true := fun M => clean_set hc (arr_ints _ (fun _ => rfl) _)
      have hgt : ∀ X : List Blk, (h ++ X)[k]? = some (tlbB L) := fun X => by rw [app_getl hlt, hk]
      have hst : ∀ (X : List Blk) B, (h ++ X).set k B = h.set k B ++ X := fun X B => app_setl hlt
      simp (config := { maxSteps := 10000000 }) only [EV1, EV2, EV3, EV4, EV5, EV6, addT, istep, lenR_sl, lenR_ns, lenR_es, pickR, putD, bin1R, un1R, slcR, bnd, capsOf, fillP, S_plain, V_plain, V.cells, S_known, V_known, C.v, blk, setL, setH, eqS, eq1, cmpS, cmp1, isNil, popTo, killT, setT, leT, V.below, C.below, S_below, R.below, V.val, C.val, S_val, R.val, R.takes, vals, shows, List.any_cons, List.any_nil, unnamed, V.kill, V.names, C.names, S_names, R.names, List.set, List.replicate, ↓q_cond_t, ↓q_cond_f, if_true, if_false, reduceCtorEq, rvals, rvC, result, C_known, V.noL, C.noL, S_noL, R.noL, Option.map, true_and, and_true, ge_iff_le, gt_iff_lt, implies_true, q_ite_t, q_ite_f, beq_iff_eq, bne_iff_ne, q_ne, Nat.reduceAdd, Nat.reducePow, Int.reducePow, Nat.reduceMul, Nat.reduceSub, Nat.reduceLeDiff, Nat.reduceLT, Nat.reduceEqDiff, Int.reduceNeg, Int.reduceLT, Int.reduceLE, Int.reduceEq, Int.reduceNe, Int.reduceAdd, Int.reduceSub, Int.reduceMul, Int.reduceToNat, Int.reduceBEq, Int.reduceBNe, df17, G6, forgetG, hk, hgt, hst, hcl, R.lend, R.unlend, S_ren, C.ren, V.ren, Blk.ren, take_app, drop_app, Nat.not_lt_zero, Nat.lt_irrefl, Nat.add_sub_cancel_left, Nat.not_lt, Nat.le_add_right, isTlb_tlbB, tlbB_cells, dec_arr, h8]
      exact hS
    · exact hS.elim
  · exact hS.elim
theorem flushAsid_snd : Snd Try.prog 18 (FSpec.of flushAsidG) := snd_run G6_snd mixed Try.func18 dc18 100 fun args h K hc hS => by
  unfold flushAsidG at hS
  split at hS
  · rename_i k a
    split at hS
    · rename_i B hk
      obtain ⟨⟨hB, h8⟩, hS⟩ := hS
      rw [spec_ok] at hS
      generalize dec B.cells = L at *
      subst hB
      have hlt : k < h.length := (List.getElem?_eq_some_iff.1 hk).1
      have hcl : ∀ M : List Ln, clean h.length (h.set k (tlbB M)) = true := fun M => clean_set hc (arr_ints _ (fun _ => rfl) _)
      have hgt : ∀ X : List Blk, (h ++ X)[k]? = some (tlbB L) := fun X => by rw [app_getl hlt, hk]
      have hst : ∀ (X : List Blk) B, (h ++ X).set k B = h.set k B ++ X := fun X B => app_setl hlt
      simp (config := { maxSteps := 10000000 }) only [EV1, EV2, EV3, EV4, EV5, EV6, addT, istep, lenR_sl, lenR_ns, lenR_es, pickR, putD, bin1R, un1R, slcR, bnd, capsOf, fillP, S_plain, V_plain, V.cells, S_known, V_known, C.v, blk, setL, setH, eqS, eq1, cmpS, cmp1, isNil, popTo, killT, setT, leT, V.below, C.below, S_below, R.below, V.val, C.val, S_val, R.val, R.takes, vals, shows, List.any_cons, List.any_nil, unnamed, V.kill, V.names, C.names, S_names, R.names, List.set, List.replicate, ↓q_cond_t, ↓q_cond_f, if_true, if_false, reduceCtorEq, rvals, rvC, result, C_known, V.noL, C.noL, S_noL, R.noL, Option.map, true_and, and_true, ge_iff_le, gt_iff_lt, implies_true, q_ite_t, q_ite_f, beq_iff_eq, bne_iff_ne, q_ne, Nat.reduceAdd, Nat.reducePow, Int.reducePow, Nat.reduceMul, Nat.reduceSub, Nat.reduceLeDiff, Nat.reduceLT, Nat.reduceEqDiff, Int.reduceNeg, Int.reduceLT, Int.reduceLE, Int.reduceEq, Int.reduceNe, Int.reduceAdd, Int.reduceSub, Int.reduceMul, Int.reduceToNat, Int.reduceBEq, Int.reduceBNe, df18, G6, forgetG, hk, hgt, hst, hcl, R.lend, R.unlend, S_ren, C.ren, V.ren, Blk.ren, take_app, drop_app, Nat.not_lt_zero, Nat.lt_irrefl, Nat.add_sub_cancel_left, Nat.not_lt, Nat.le_add_right, isTlb_tlbB, tlbB_cells, dec_arr, h8]
      exact hS
    · exact hS.elim
  · exact hS.elim
theorem flushAll_snd : Snd Try.prog 19 (FSpec.of flushAllG) := snd_run G6_snd mixed Try.func19 dc19 100 fun args h K hc hS => by
  unfold flushAllG at hS
  split at hS
  · rename_i k
    split at hS
    · rename_i B hk
      obtain ⟨⟨hB, h8⟩, hS⟩ := hS
      rw [spec_ok] at hS
      generalize dec B.cells = L at *
      subst hB
      have hlt : k < h.length := (List.getElem?_eq_some_iff.1 hk).1
      have hcl : ∀ M : List Ln, clean h.length (h.set k (tlbB M)) = true := fun M => clean_set hc (arr_ints _ (fun _ => rfl) _)
      have hgt : ∀ X : List Blk, (h ++ X)[k]? = some (tlbB L) := fun X => by rw [app_getl hlt, hk]
      have hst : ∀ (X : List Blk) B, (h ++ X).set k B = h.set k B ++ X := fun X B => app_setl hlt
      simp (config := { maxSteps := 10000000 }) only [EV1, EV2, EV3, EV4, EV5, EV6, addT, istep, lenR_sl, lenR_ns, lenR_es, pickR, putD, bin1R, un1R, slcR, bnd, capsOf, fillP, S_plain, V_plain, V.cells, S_known, V_known, C.v, blk, setL, setH, eqS, eq1, cmpS, cmp1, isNil, popTo, killT, setT, leT, V.below, C.below, S_below, R.below, V.val, C.val, S_val, R.val, R.takes, vals, shows, List.any_cons, List.any_nil, unnamed, V.kill, V.names, C.names, S_names, R.names, List.set, List.replicate, ↓q_cond_t, ↓q_cond_f, if_true, if_false, reduceCtorEq, rvals, rvC, result, C_known, V.noL, C.noL, S_noL, R.noL, Option.map, true_and, and_true, ge_iff_le, gt_iff_lt, implies_true, q_ite_t, q_ite_f, beq_iff_eq, bne_iff_ne, q_ne, Nat.reduceAdd, Nat.reducePow, Int.reducePow, Nat.reduceMul, Nat.reduceSub, Nat.reduceLeDiff, Nat.reduceLT, Nat.reduceEqDiff, Int.reduceNeg, Int.reduceLT, Int.reduceLE, Int.reduceEq, Int.reduceNe, Int.reduceAdd, Int.reduceSub, Int.reduceMul, Int.reduceToNat, Int.reduceBEq, Int.reduceBNe, df19, G6, forgetG, hk, hgt, hst, hcl, R.lend, R.unlend, S_ren, C.ren, V.ren, Blk.ren, take_app, drop_app, Nat.not_lt_zero, Nat.lt_irrefl, Nat.add_sub_cancel_left, Nat.not_lt, Nat.le_add_right, isTlb_tlbB, tlbB_cells, dec_arr, h8]
      exact hS
    · exact hS.elim
  · exact hS.elim

end Tl
end Go.Proofs.Yteeeidldknlblaa

/- Layer 4: the document's functions. -/
namespace Go.Proofs.Yteeeidldknlblaa
namespace Tl
open Go.D
set_option linter.all false
set_option maxRecDepth 100000
set_option maxHeartbeats 4000000

/-- No line without an address space but the empty one; no page twice. -/
def okL (L : List Ln) : Prop := ∀ l, l ∈ L → l = Ln.z ∨ l.a ≠ 0
def one (x y : Ln) : Prop := x.nil = false → y.nil = false → (x.a == y.a && x.p == y.p) = false
structure okT (L : List Ln) : Prop where
  len : L.length = 8
  ok : okL L
  one : L.Pairwise one

theorem hit_ok {a p : Int} {l : Ln} (h : l = Ln.z ∨ l.a ≠ 0) : l.hit a p = (l.a != 0 && (l.a == a && l.p == p)) := by
  rcases h with rfl | h
  · rfl
  · have : l.nil = false := by simp [Ln.nil, h]
    simp [Ln.hit, this, h]

def rAtG : List V → List Blk → Res
  | [.s (.p (.g k) 0), .s (.i .i64 a), .s (.i .i64 p)], h => match h[k]? with
    | some B => .ob (isTlb B ∧ okL (dec B.cells)) (.ok (.s (.i .i64 (atF a p (dec B.cells) 0))) [] h)
    | none => .bad
  | _, _ => .bad

theorem rAt_snd : Snd Try.prog 75 (FSpec.of rAtG) := snd_run (noT_snd _) mixed Try.func75 dc75 100 fun args h K _ hS => by
  unfold rAtG at hS
  split at hS
  · rename_i k a p
    split at hS
    · rename_i B hk
      obtain ⟨⟨⟨hB, h8⟩, hok⟩, hS⟩ := hS
      generalize dec B.cells = L at *
      subst hB
      rw [spec_ok] at hS
      have hlen : (arr Ln.c L).length = 32 := by rw [arr_length Ln.c_len, h8]
      simp (config := { maxSteps := 10000000 }) only [EV1, EV2, EV3, EV4, EV5, EV6, addT, istep, lenR_sl, lenR_ns, lenR_es, pickR, putD, bin1R, un1R, slcR, bnd, capsOf, fillP, S_plain, V_plain, V.cells, S_known, V_known, C.v, blk, setL, setH, eqS, eq1, cmpS, cmp1, isNil, popTo, killT, setT, leT, V.below, C.below, S_below, R.below, V.val, C.val, S_val, R.val, R.takes, vals, shows, List.any_cons, List.any_nil, unnamed, V.kill, V.names, C.names, S_names, R.names, List.set, List.replicate, ↓q_cond_t, ↓q_cond_f, if_true, if_false, reduceCtorEq, rvals, rvC, result, C_known, V.noL, C.noL, S_noL, R.noL, Option.map, true_and, and_true, ge_iff_le, gt_iff_lt, implies_true, q_ite_t, q_ite_f, beq_iff_eq, bne_iff_ne, q_ne, Nat.reduceAdd, Nat.reducePow, Int.reducePow, Nat.reduceMul, Nat.reduceSub, Nat.reduceLeDiff, Nat.reduceLT, Nat.reduceEqDiff, Int.reduceNeg, Int.reduceLT, Int.reduceLE, Int.reduceEq, Int.reduceNe, Int.reduceAdd, Int.reduceSub, Int.reduceMul, Int.reduceToNat, Int.reduceBEq, Int.reduceBNe, df75]
      refine loop_rule (α := Nat) [6, 7, 8, 9, 10, 11, 12, 13, 14, 15, 16, 17, 18, 19, 20, 21, 22, 23, 24, 25, 26, 27, 28, 29, 30, 31, 32, 33, 34, 35, 36, 37, 38, 39, 40, 41, 42] (fun i => [(6, .s (.i .i64 0)), (7, .s (.i .i64 i))]) (fun _ => []) (fun _ => h)
        (fun i => i ≤ 8 ∧ atF a p L 0 = atF a p (L.drop i) i) (fun i => 8 - i) 0 ⟨by omega, rfl⟩ ?_ ?_
      · refine Wk.less ?_
        simp (config := { maxSteps := 10000000 }) only [EV1, EV2, EV3, EV4, EV5, EV6, addT, istep, lenR_sl, lenR_ns, lenR_es, pickR, putD, bin1R, un1R, slcR, bnd, capsOf, fillP, S_plain, V_plain, V.cells, S_known, V_known, C.v, blk, setL, setH, eqS, eq1, cmpS, cmp1, isNil, popTo, killT, setT, leT, V.below, C.below, S_below, R.below, V.val, C.val, S_val, R.val, R.takes, vals, shows, List.any_cons, List.any_nil, unnamed, V.kill, V.names, C.names, S_names, R.names, List.set, List.replicate, ↓q_cond_t, ↓q_cond_f, if_true, if_false, reduceCtorEq, rvals, rvC, result, C_known, V.noL, C.noL, S_noL, R.noL, Option.map, true_and, and_true, ge_iff_le, gt_iff_lt, implies_true, q_ite_t, q_ite_f, beq_iff_eq, bne_iff_ne, q_ne, Nat.reduceAdd, Nat.reducePow, Int.reducePow, Nat.reduceMul, Nat.reduceSub, Nat.reduceLeDiff, Nat.reduceLT, Nat.reduceEqDiff, Int.reduceNeg, Int.reduceLT, Int.reduceLE, Int.reduceEq, Int.reduceNe, Int.reduceAdd, Int.reduceSub, Int.reduceMul, Int.reduceToNat, Int.reduceBEq, Int.reduceBNe, Int.natCast_zero]
      · rintro X i ⟨hi, hat⟩ IH
        rcases Nat.lt_or_ge i 8 with hi8 | hi8
        · have F := idx hi8 (by omega)
          have E := Ln.at_ (L := L) (i := i) (by omega)
          have hi8' : (i : Int) < 8 := by omega
          have hl : L.drop i = nth Ln.z L i :: L.drop (i + 1) := by rw [List.drop_eq_getElem_cons (by omega), nth_eq (by omega)]
          have hh := hit_ok (a := a) (p := p) (hok (nth Ln.z L i) (by rw [nth_eq (by omega)]; exact List.getElem_mem _))
          refine run_sound (Tab.ok_Γ _) 100 _ _ _ _ ?_
          simp (config := { maxSteps := 10000000 }) only [EV1, EV2, EV3, EV4, EV5, EV6, addT, istep, lenR_sl, lenR_ns, lenR_es, pickR, putD, bin1R, un1R, slcR, bnd, capsOf, fillP, S_plain, V_plain, V.cells, S_known, V_known, C.v, blk, setL, setH, eqS, eq1, cmpS, cmp1, isNil, popTo, killT, setT, leT, V.below, C.below, S_below, R.below, V.val, C.val, S_val, R.val, R.takes, vals, shows, List.any_cons, List.any_nil, unnamed, V.kill, V.names, C.names, S_names, R.names, List.set, List.replicate, ↓q_cond_t, ↓q_cond_f, if_true, if_false, reduceCtorEq, rvals, rvC, result, C_known, V.noL, C.noL, S_noL, R.noL, Option.map, true_and, and_true, ge_iff_le, gt_iff_lt, implies_true, q_ite_t, q_ite_f, beq_iff_eq, bne_iff_ne, q_ne, Nat.reduceAdd, Nat.reducePow, Int.reducePow, Nat.reduceMul, Nat.reduceSub, Nat.reduceLeDiff, Nat.reduceLT, Nat.reduceEqDiff, Int.reduceNeg, Int.reduceLT, Int.reduceLE, Int.reduceEq, Int.reduceNe, Int.reduceAdd, Int.reduceSub, Int.reduceMul, Int.reduceToNat, Int.reduceBEq, Int.reduceBNe, F, E, hi8', hk, tlbB]
          rw [hl, atF, hh] at hat
          refine ⟨fun h1 => ?_, fun h1 => ?_⟩
          · have e : ((nth Ln.z L i).a != 0 && ((nth Ln.z L i).a == a && (nth Ln.z L i).p == p)) = true := by
              simp only [Bool.and_eq_true, bne_iff_ne, beq_iff_eq]
              omega
            rw [e, if_pos rfl] at hat
            rw [hat] at hS
            exact hS
          · have e : ((nth Ln.z L i).a != 0 && ((nth Ln.z L i).a == a && (nth Ln.z L i).p == p)) = false := by
              rw [Bool.eq_false_iff]
              intro h2
              refine h1 ?_
              simp only [Bool.and_eq_true, bne_iff_ne, beq_iff_eq] at h2 ⊢
              omega
            rw [e] at hat
            refine IH (i + 1) _ (by omega) ⟨by omega, hat⟩ (Wk.same rfl rfl ?_)
            simp (config := { maxSteps := 10000000 }) only [EV1, EV2, EV3, EV4, EV5, EV6, addT, istep, lenR_sl, lenR_ns, lenR_es, pickR, putD, bin1R, un1R, slcR, bnd, capsOf, fillP, S_plain, V_plain, V.cells, S_known, V_known, C.v, blk, setL, setH, eqS, eq1, cmpS, cmp1, isNil, popTo, killT, setT, leT, V.below, C.below, S_below, R.below, V.val, C.val, S_val, R.val, R.takes, vals, shows, List.any_cons, List.any_nil, unnamed, V.kill, V.names, C.names, S_names, R.names, List.set, List.replicate, ↓q_cond_t, ↓q_cond_f, if_true, if_false, reduceCtorEq, rvals, rvC, result, C_known, V.noL, C.noL, S_noL, R.noL, Option.map, true_and, and_true, ge_iff_le, gt_iff_lt, implies_true, q_ite_t, q_ite_f, beq_iff_eq, bne_iff_ne, q_ne, Nat.reduceAdd, Nat.reducePow, Int.reducePow, Nat.reduceMul, Nat.reduceSub, Nat.reduceLeDiff, Nat.reduceLT, Nat.reduceEqDiff, Int.reduceNeg, Int.reduceLT, Int.reduceLE, Int.reduceEq, Int.reduceNe, Int.reduceAdd, Int.reduceSub, Int.reduceMul, Int.reduceToNat, Int.reduceBEq, Int.reduceBNe]
        · have : i = 8 := by omega
          subst this
          refine run_sound (Tab.ok_Γ _) 100 _ _ _ _ ?_
          simp (config := { maxSteps := 10000000 }) only [EV1, EV2, EV3, EV4, EV5, EV6, addT, istep, lenR_sl, lenR_ns, lenR_es, pickR, putD, bin1R, un1R, slcR, bnd, capsOf, fillP, S_plain, V_plain, V.cells, S_known, V_known, C.v, blk, setL, setH, eqS, eq1, cmpS, cmp1, isNil, popTo, killT, setT, leT, V.below, C.below, S_below, R.below, V.val, C.val, S_val, R.val, R.takes, vals, shows, List.any_cons, List.any_nil, unnamed, V.kill, V.names, C.names, S_names, R.names, List.set, List.replicate, ↓q_cond_t, ↓q_cond_f, if_true, if_false, reduceCtorEq, rvals, rvC, result, C_known, V.noL, C.noL, S_noL, R.noL, Option.map, true_and, and_true, ge_iff_le, gt_iff_lt, implies_true, q_ite_t, q_ite_f, beq_iff_eq, bne_iff_ne, q_ne, Nat.reduceAdd, Nat.reducePow, Int.reducePow, Nat.reduceMul, Nat.reduceSub, Nat.reduceLeDiff, Nat.reduceLT, Nat.reduceEqDiff, Int.reduceNeg, Int.reduceLT, Int.reduceLE, Int.reduceEq, Int.reduceNe, Int.reduceAdd, Int.reduceSub, Int.reduceMul, Int.reduceToNat, Int.reduceBEq, Int.reduceBNe, Int.lt_irrefl, q_cast]
          rw [hat] at hS
          simp only [← h8, List.drop_length, atF] at hS
          exact hS
    · exact hS.elim
  · exact hS.elim

def mayG : List V → List Blk → Res
  | [.agg [.i .i64 a, .i .i64 p, .i .i64 x, .i .i64 r]], h => .ok (.s (.b (Ln.may ⟨a, p, x, r⟩))) [] h
  | _, _ => .bad
theorem may_snd : Snd Try.prog 76 (FSpec.of mayG) := snd_run (noT_snd _) mixed Try.func76 dc76 100 fun args h K _ hS => by
  unfold mayG at hS
  split at hS
  · rename_i a p x r
    rw [spec_ok] at hS
    simp (config := { maxSteps := 10000000 }) only [EV1, EV2, EV3, EV4, EV5, EV6, addT, istep, lenR_sl, lenR_ns, lenR_es, pickR, putD, bin1R, un1R, slcR, bnd, capsOf, fillP, S_plain, V_plain, V.cells, S_known, V_known, C.v, blk, setL, setH, eqS, eq1, cmpS, cmp1, isNil, popTo, killT, setT, leT, V.below, C.below, S_below, R.below, V.val, C.val, S_val, R.val, R.takes, vals, shows, List.any_cons, List.any_nil, unnamed, V.kill, V.names, C.names, S_names, R.names, List.set, List.replicate, ↓q_cond_t, ↓q_cond_f, if_true, if_false, reduceCtorEq, rvals, rvC, result, C_known, V.noL, C.noL, S_noL, R.noL, Option.map, true_and, and_true, ge_iff_le, gt_iff_lt, implies_true, q_ite_t, q_ite_f, beq_iff_eq, bne_iff_ne, q_ne, Nat.reduceAdd, Nat.reducePow, Int.reducePow, Nat.reduceMul, Nat.reduceSub, Nat.reduceLeDiff, Nat.reduceLT, Nat.reduceEqDiff, Int.reduceNeg, Int.reduceLT, Int.reduceLE, Int.reduceEq, Int.reduceNe, Int.reduceAdd, Int.reduceSub, Int.reduceMul, Int.reduceToNat, Int.reduceBEq, Int.reduceBNe, df76]
    refine cast ?_ hS
    congr 3
    rw [Bool.eq_iff_iff]
    simp only [Ln.may, Bool.and_eq_true, decide_eq_true_eq, beq_iff_eq]
    constructor
    · intro h
      have := Int.tmod_eq_emod_of_nonneg (a := x) (b := 16) (by omega)
      omega
    · intro h
      have := Int.tmod_eq_emod_of_nonneg (a := x) (b := 16) (by omega)
      omega
  · exact hS.elim

def G7 : Tab := addT 75 rAtG (addT 76 mayG noT)
theorem G7_snd : G7.Snd Try.prog := addT_snd ok75 rAt_snd (addT_snd ok76 may_snd (noT_snd _))

def rFindG : List V → List Blk → Res
  | [.s (.p (.g k) 0), .s (.i .i64 a), .s (.i .i64 p)], h => match h[k]? with
    | some B => .ob (isTlb B ∧ okL (dec B.cells)) (.br (decide (atF a p (dec B.cells) 0 < 0)) (.ok (.tup [.s (.i .i64 0), .s (.i .i64 0), .s (.b false)]) [] h)
        (.ok (.tup [.s (.i .i64 (nth Ln.z (dec B.cells) (atF a p (dec B.cells) 0).toNat).x), .s (.i .i64 (nth Ln.z (dec B.cells) (atF a p (dec B.cells) 0).toNat).r), .s (.b true)]) [] h))
    | none => .bad
  | _, _ => .bad

theorem rFind_snd : Snd Try.prog 73 (FSpec.of rFindG) := snd_run G7_snd mixed Try.func73 dc73 100 fun args h K _ hS => by
  unfold rFindG at hS
  split at hS
  · rename_i k a p
    split at hS
    · rename_i B hk
      obtain ⟨⟨⟨hB, h8⟩, hok⟩, hS⟩ := hS
      generalize dec B.cells = L at *
      subst hB
      simp only [spec_br, spec_ok] at hS
      rcases atF_cases a p L 0 with e | ⟨j, hj, e⟩
      · rw [e] at hS
        simp (config := { maxSteps := 10000000 }) only [EV1, EV2, EV3, EV4, EV5, EV6, addT, istep, lenR_sl, lenR_ns, lenR_es, pickR, putD, bin1R, un1R, slcR, bnd, capsOf, fillP, S_plain, V_plain, V.cells, S_known, V_known, C.v, blk, setL, setH, eqS, eq1, cmpS, cmp1, isNil, popTo, killT, setT, leT, V.below, C.below, S_below, R.below, V.val, C.val, S_val, R.val, R.takes, vals, shows, List.any_cons, List.any_nil, unnamed, V.kill, V.names, C.names, S_names, R.names, List.set, List.replicate, ↓q_cond_t, ↓q_cond_f, if_true, if_false, reduceCtorEq, rvals, rvC, result, C_known, V.noL, C.noL, S_noL, R.noL, Option.map, true_and, and_true, ge_iff_le, gt_iff_lt, implies_true, q_ite_t, q_ite_f, beq_iff_eq, bne_iff_ne, q_ne, Nat.reduceAdd, Nat.reducePow, Int.reducePow, Nat.reduceMul, Nat.reduceSub, Nat.reduceLeDiff, Nat.reduceLT, Nat.reduceEqDiff, Int.reduceNeg, Int.reduceLT, Int.reduceLE, Int.reduceEq, Int.reduceNe, Int.reduceAdd, Int.reduceSub, Int.reduceMul, Int.reduceToNat, Int.reduceBEq, Int.reduceBNe, df73, G7, rAtG, hk, isTlb_tlbB, tlbB_cells, dec_arr, e, h8, hok]
        exact hS.1 rfl
      · rw [Nat.zero_add] at e
        have F := idx (i := j) (n := 8) (by omega) (by omega)
        have E := Ln.at_ (L := L) (i := j) hj
        have hj8' : (j : Int) < 8 := by omega
        rw [e] at hS
        have hS := hS.2 (by simp)
        simp (config := { maxSteps := 10000000 }) only [EV1, EV2, EV3, EV4, EV5, EV6, addT, istep, lenR_sl, lenR_ns, lenR_es, pickR, putD, bin1R, un1R, slcR, bnd, capsOf, fillP, S_plain, V_plain, V.cells, S_known, V_known, C.v, blk, setL, setH, eqS, eq1, cmpS, cmp1, isNil, popTo, killT, setT, leT, V.below, C.below, S_below, R.below, V.val, C.val, S_val, R.val, R.takes, vals, shows, List.any_cons, List.any_nil, unnamed, V.kill, V.names, C.names, S_names, R.names, List.set, List.replicate, ↓q_cond_t, ↓q_cond_f, if_true, if_false, reduceCtorEq, rvals, rvC, result, C_known, V.noL, C.noL, S_noL, R.noL, Option.map, true_and, and_true, ge_iff_le, gt_iff_lt, implies_true, q_ite_t, q_ite_f, beq_iff_eq, bne_iff_ne, q_ne, Nat.reduceAdd, Nat.reducePow, Int.reducePow, Nat.reduceMul, Nat.reduceSub, Nat.reduceLeDiff, Nat.reduceLT, Nat.reduceEqDiff, Int.reduceNeg, Int.reduceLT, Int.reduceLE, Int.reduceEq, Int.reduceNe, Int.reduceAdd, Int.reduceSub, Int.reduceMul, Int.reduceToNat, Int.reduceBEq, Int.reduceBNe, df73, G7, rAtG, hk, isTlb_tlbB, tlbB_cells, tlbB_st, dec_arr, e, h8, hok, F, E, hj8', q_cast]
        exact hS
    · exact hS.elim
  · exact hS.elim

def rFillG : List V → List Blk → Res
  | [.s (.p (.g k) 0), .agg [.i .i64 a, .i .i64 p, .i .i64 x, .i .i64 r], .s (.i .i64 at_)], h => match h[k]? with
    | some B => .ob (isTlb B ∧ okL (dec B.cells)) (.br (fillB ⟨a, p, x, r⟩ at_) (.ok (.s (.i .i64 0)) [] (h.set k (tlbB ((dec B.cells).set (slotF ⟨a, p, x, r⟩ at_ (dec B.cells)) ⟨a, p, x, r⟩))))
        (.ok (.s (.i .i64 1)) [] h))
    | none => .bad
  | _, _ => .bad

theorem rFill_snd : Snd Try.prog 74 (FSpec.of rFillG) := snd_run G7_snd mixed Try.func74 dc74 200 fun args h K _ hS => by
  unfold rFillG at hS
  split at hS
  · rename_i k a p x r at_
    split at hS
    · rename_i B hk
      obtain ⟨⟨⟨hB, h8⟩, hok⟩, hS⟩ := hS
      generalize dec B.cells = L at *
      subst hB
      simp only [spec_br, spec_ok] at hS
      have hlen : (arr Ln.c L).length = 32 := by rw [arr_length Ln.c_len, h8]
      have hb : fillB ⟨a, p, x, r⟩ at_ = true ↔ Ln.may ⟨a, p, x, r⟩ = true ∧ 0 ≤ at_ ∧ at_ < 8 := by
        simp only [fillB, Bool.and_eq_true, decide_eq_true_eq]
        exact ⟨fun ⟨h1, h2, h3⟩ => ⟨h1, h2, by omega⟩, fun ⟨h1, h2, h3⟩ => ⟨h1, h2, by omega⟩⟩
      by_cases hm : Ln.may ⟨a, p, x, r⟩ = true ∧ 0 ≤ at_ ∧ at_ < 8
      · have hS := hS.1 (hb.2 hm)
        obtain ⟨hm1, hm2, hm3⟩ := hm
        have hm2' : ¬ (at_ < 0) := by omega
        have hm3' : ¬ (8 ≤ at_) := by omega
        rcases atF_cases a p L 0 with e | ⟨j, hj, e⟩
        · have hp := fun a p x r => arr_put4 (L := L) (n := at_.toNat) (by omega) a p x r
          have hle : at_.toNat * 4 + 4 ≤ 32 := by omega
          simp (config := { maxSteps := 10000000 }) only [EV1, EV2, EV3, EV4, EV5, EV6, addT, istep, lenR_sl, lenR_ns, lenR_es, pickR, putD, bin1R, un1R, slcR, bnd, capsOf, fillP, S_plain, V_plain, V.cells, S_known, V_known, C.v, blk, setL, setH, eqS, eq1, cmpS, cmp1, isNil, popTo, killT, setT, leT, V.below, C.below, S_below, R.below, V.val, C.val, S_val, R.val, R.takes, vals, shows, List.any_cons, List.any_nil, unnamed, V.kill, V.names, C.names, S_names, R.names, List.set, List.replicate, ↓q_cond_t, ↓q_cond_f, if_true, if_false, reduceCtorEq, rvals, rvC, result, C_known, V.noL, C.noL, S_noL, R.noL, Option.map, true_and, and_true, ge_iff_le, gt_iff_lt, implies_true, q_ite_t, q_ite_f, beq_iff_eq, bne_iff_ne, q_ne, Nat.reduceAdd, Nat.reducePow, Int.reducePow, Nat.reduceMul, Nat.reduceSub, Nat.reduceLeDiff, Nat.reduceLT, Nat.reduceEqDiff, Int.reduceNeg, Int.reduceLT, Int.reduceLE, Int.reduceEq, Int.reduceNe, Int.reduceAdd, Int.reduceSub, Int.reduceMul, Int.reduceToNat, Int.reduceBEq, Int.reduceBNe, df74, G7, rAtG, mayG, hk, isTlb_tlbB, tlbB_cells, tlbB_st, tlbB_room, dec_arr, e, h8, hok, hm1, hm2, hm2', hm3', hm3, hlen, hp, hle]
          refine cast ?_ hS
          simp only [slotF, e, Int.reduceNeg, Int.reduceLT, if_true]; rfl
        · rw [Nat.zero_add] at e
          have F := idx (i := j) (n := 8) (by omega) (by omega)
          have hp := fun a p x r => arr_put4 hj a p x r
          have hle : j * 4 + 4 ≤ 32 := by omega
          have hj8' : (j : Int) < 8 := by omega
          simp (config := { maxSteps := 10000000 }) only [EV1, EV2, EV3, EV4, EV5, EV6, addT, istep, lenR_sl, lenR_ns, lenR_es, pickR, putD, bin1R, un1R, slcR, bnd, capsOf, fillP, S_plain, V_plain, V.cells, S_known, V_known, C.v, blk, setL, setH, eqS, eq1, cmpS, cmp1, isNil, popTo, killT, setT, leT, V.below, C.below, S_below, R.below, V.val, C.val, S_val, R.val, R.takes, vals, shows, List.any_cons, List.any_nil, unnamed, V.kill, V.names, C.names, S_names, R.names, List.set, List.replicate, ↓q_cond_t, ↓q_cond_f, if_true, if_false, reduceCtorEq, rvals, rvC, result, C_known, V.noL, C.noL, S_noL, R.noL, Option.map, true_and, and_true, ge_iff_le, gt_iff_lt, implies_true, q_ite_t, q_ite_f, beq_iff_eq, bne_iff_ne, q_ne, Nat.reduceAdd, Nat.reducePow, Int.reducePow, Nat.reduceMul, Nat.reduceSub, Nat.reduceLeDiff, Nat.reduceLT, Nat.reduceEqDiff, Int.reduceNeg, Int.reduceLT, Int.reduceLE, Int.reduceEq, Int.reduceNe, Int.reduceAdd, Int.reduceSub, Int.reduceMul, Int.reduceToNat, Int.reduceBEq, Int.reduceBNe, df74, G7, rAtG, mayG, hk, isTlb_tlbB, tlbB_cells, tlbB_st, tlbB_room, dec_arr, e, h8, hok, hm1, hm2, hm2', hm3', hm3, hlen, hp, hle, F, hj8']
          refine cast ?_ hS
          have hn : ¬ ((j : Int) < 0) := by omega
          simp only [slotF, e, hn, if_false, Int.toNat_natCast]; rfl
      · have hS := hS.2 (by rw [← Bool.not_eq_true]; exact fun h1 => hm (hb.1 h1))
        by_cases h1 : Ln.may ⟨a, p, x, r⟩ = true
        · rcases (by omega : at_ < 0 ∨ 0 ≤ at_) with h2 | h2
          · simp (config := { maxSteps := 10000000 }) only [EV1, EV2, EV3, EV4, EV5, EV6, addT, istep, lenR_sl, lenR_ns, lenR_es, pickR, putD, bin1R, un1R, slcR, bnd, capsOf, fillP, S_plain, V_plain, V.cells, S_known, V_known, C.v, blk, setL, setH, eqS, eq1, cmpS, cmp1, isNil, popTo, killT, setT, leT, V.below, C.below, S_below, R.below, V.val, C.val, S_val, R.val, R.takes, vals, shows, List.any_cons, List.any_nil, unnamed, V.kill, V.names, C.names, S_names, R.names, List.set, List.replicate, ↓q_cond_t, ↓q_cond_f, if_true, if_false, reduceCtorEq, rvals, rvC, result, C_known, V.noL, C.noL, S_noL, R.noL, Option.map, true_and, and_true, ge_iff_le, gt_iff_lt, implies_true, q_ite_t, q_ite_f, beq_iff_eq, bne_iff_ne, q_ne, Nat.reduceAdd, Nat.reducePow, Int.reducePow, Nat.reduceMul, Nat.reduceSub, Nat.reduceLeDiff, Nat.reduceLT, Nat.reduceEqDiff, Int.reduceNeg, Int.reduceLT, Int.reduceLE, Int.reduceEq, Int.reduceNe, Int.reduceAdd, Int.reduceSub, Int.reduceMul, Int.reduceToNat, Int.reduceBEq, Int.reduceBNe, df74, G7, rAtG, mayG, h1, h2]
            exact hS
          · have h3 : 8 ≤ at_ := by
              rcases (by omega : at_ < 8 ∨ 8 ≤ at_) with h | h
              · exact absurd ⟨h1, h2, h⟩ hm
              · exact h
            have h2' : ¬ (at_ < 0) := by omega
            simp (config := { maxSteps := 10000000 }) only [EV1, EV2, EV3, EV4, EV5, EV6, addT, istep, lenR_sl, lenR_ns, lenR_es, pickR, putD, bin1R, un1R, slcR, bnd, capsOf, fillP, S_plain, V_plain, V.cells, S_known, V_known, C.v, blk, setL, setH, eqS, eq1, cmpS, cmp1, isNil, popTo, killT, setT, leT, V.below, C.below, S_below, R.below, V.val, C.val, S_val, R.val, R.takes, vals, shows, List.any_cons, List.any_nil, unnamed, V.kill, V.names, C.names, S_names, R.names, List.set, List.replicate, ↓q_cond_t, ↓q_cond_f, if_true, if_false, reduceCtorEq, rvals, rvC, result, C_known, V.noL, C.noL, S_noL, R.noL, Option.map, true_and, and_true, ge_iff_le, gt_iff_lt, implies_true, q_ite_t, q_ite_f, beq_iff_eq, bne_iff_ne, q_ne, Nat.reduceAdd, Nat.reducePow, Int.reducePow, Nat.reduceMul, Nat.reduceSub, Nat.reduceLeDiff, Nat.reduceLT, Nat.reduceEqDiff, Int.reduceNeg, Int.reduceLT, Int.reduceLE, Int.reduceEq, Int.reduceNe, Int.reduceAdd, Int.reduceSub, Int.reduceMul, Int.reduceToNat, Int.reduceBEq, Int.reduceBNe, df74, G7, rAtG, mayG, h1, h2', h3]
            exact hS
        · have h1 : Ln.may ⟨a, p, x, r⟩ = false := by simpa using h1
          simp (config := { maxSteps := 10000000 }) only [EV1, EV2, EV3, EV4, EV5, EV6, addT, istep, lenR_sl, lenR_ns, lenR_es, pickR, putD, bin1R, un1R, slcR, bnd, capsOf, fillP, S_plain, V_plain, V.cells, S_known, V_known, C.v, blk, setL, setH, eqS, eq1, cmpS, cmp1, isNil, popTo, killT, setT, leT, V.below, C.below, S_below, R.below, V.val, C.val, S_val, R.val, R.takes, vals, shows, List.any_cons, List.any_nil, unnamed, V.kill, V.names, C.names, S_names, R.names, List.set, List.replicate, ↓q_cond_t, ↓q_cond_f, if_true, if_false, reduceCtorEq, rvals, rvC, result, C_known, V.noL, C.noL, S_noL, R.noL, Option.map, true_and, and_true, ge_iff_le, gt_iff_lt, implies_true, q_ite_t, q_ite_f, beq_iff_eq, bne_iff_ne, q_ne, Nat.reduceAdd, Nat.reducePow, Int.reducePow, Nat.reduceMul, Nat.reduceSub, Nat.reduceLeDiff, Nat.reduceLT, Nat.reduceEqDiff, Int.reduceNeg, Int.reduceLT, Int.reduceLE, Int.reduceEq, Int.reduceNe, Int.reduceAdd, Int.reduceSub, Int.reduceMul, Int.reduceToNat, Int.reduceBEq, Int.reduceBNe, df74, G7, rAtG, mayG, h1]
          exact hS
    · exact hS.elim
  · exact hS.elim

theorem rEvict_snd : Snd Try.prog 48 (FSpec.of evictG) := snd_run (noT_snd _) mixed Try.func48 dc48 100 fun args h K _ hS => by
  unfold evictG at hS
  split at hS
  · rename_i k at_
    split at hS
    · rename_i B hk
      obtain ⟨⟨hB, h8⟩, hS⟩ := hS
      generalize dec B.cells = L at *
      subst hB
      simp only [spec_br, spec_ok, decide_eq_true_eq, decide_eq_false_iff_not] at hS
      have hlen : (arr Ln.c L).length = 32 := by rw [arr_length Ln.c_len, h8]
      by_cases hm : 0 ≤ at_ ∧ at_ ≤ 7
      · have hS := hS.1 hm
        have h1 : ¬ (at_ < 0) := by omega
        have h2 : ¬ (8 ≤ at_) := by omega
        have h3 : 0 ≤ at_ := hm.1
        have h4 : at_ < 8 := by omega
        have hle : at_.toNat * 4 + 4 ≤ 32 := by omega
        have hp := fun a p x r => arr_put4 (L := L) (n := at_.toNat) (by omega) a p x r
        simp (config := { maxSteps := 10000000 }) only [EV1, EV2, EV3, EV4, EV5, EV6, addT, istep, lenR_sl, lenR_ns, lenR_es, pickR, putD, bin1R, un1R, slcR, bnd, capsOf, fillP, S_plain, V_plain, V.cells, S_known, V_known, C.v, blk, setL, setH, eqS, eq1, cmpS, cmp1, isNil, popTo, killT, setT, leT, V.below, C.below, S_below, R.below, V.val, C.val, S_val, R.val, R.takes, vals, shows, List.any_cons, List.any_nil, unnamed, V.kill, V.names, C.names, S_names, R.names, List.set, List.replicate, ↓q_cond_t, ↓q_cond_f, if_true, if_false, reduceCtorEq, rvals, rvC, result, C_known, V.noL, C.noL, S_noL, R.noL, Option.map, true_and, and_true, ge_iff_le, gt_iff_lt, implies_true, q_ite_t, q_ite_f, beq_iff_eq, bne_iff_ne, q_ne, Nat.reduceAdd, Nat.reducePow, Int.reducePow, Nat.reduceMul, Nat.reduceSub, Nat.reduceLeDiff, Nat.reduceLT, Nat.reduceEqDiff, Int.reduceNeg, Int.reduceLT, Int.reduceLE, Int.reduceEq, Int.reduceNe, Int.reduceAdd, Int.reduceSub, Int.reduceMul, Int.reduceToNat, Int.reduceBEq, Int.reduceBNe, df48, hk, tlbB_st, tlbB_cells, tlbB_room, hlen, h1, h2, h3, h4, hle, hp]
        exact hS
      · have hS := hS.2 hm
        rcases (by omega : at_ < 0 ∨ 0 ≤ at_) with h1 | h1
        · simp (config := { maxSteps := 10000000 }) only [EV1, EV2, EV3, EV4, EV5, EV6, addT, istep, lenR_sl, lenR_ns, lenR_es, pickR, putD, bin1R, un1R, slcR, bnd, capsOf, fillP, S_plain, V_plain, V.cells, S_known, V_known, C.v, blk, setL, setH, eqS, eq1, cmpS, cmp1, isNil, popTo, killT, setT, leT, V.below, C.below, S_below, R.below, V.val, C.val, S_val, R.val, R.takes, vals, shows, List.any_cons, List.any_nil, unnamed, V.kill, V.names, C.names, S_names, R.names, List.set, List.replicate, ↓q_cond_t, ↓q_cond_f, if_true, if_false, reduceCtorEq, rvals, rvC, result, C_known, V.noL, C.noL, S_noL, R.noL, Option.map, true_and, and_true, ge_iff_le, gt_iff_lt, implies_true, q_ite_t, q_ite_f, beq_iff_eq, bne_iff_ne, q_ne, Nat.reduceAdd, Nat.reducePow, Int.reducePow, Nat.reduceMul, Nat.reduceSub, Nat.reduceLeDiff, Nat.reduceLT, Nat.reduceEqDiff, Int.reduceNeg, Int.reduceLT, Int.reduceLE, Int.reduceEq, Int.reduceNe, Int.reduceAdd, Int.reduceSub, Int.reduceMul, Int.reduceToNat, Int.reduceBEq, Int.reduceBNe, df48, h1]
          exact hS
        · have h2 : 8 ≤ at_ := by omega
          have h1' : ¬ (at_ < 0) := by omega
          simp (config := { maxSteps := 10000000 }) only [EV1, EV2, EV3, EV4, EV5, EV6, addT, istep, lenR_sl, lenR_ns, lenR_es, pickR, putD, bin1R, un1R, slcR, bnd, capsOf, fillP, S_plain, V_plain, V.cells, S_known, V_known, C.v, blk, setL, setH, eqS, eq1, cmpS, cmp1, isNil, popTo, killT, setT, leT, V.below, C.below, S_below, R.below, V.val, C.val, S_val, R.val, R.takes, vals, shows, List.any_cons, List.any_nil, unnamed, V.kill, V.names, C.names, S_names, R.names, List.set, List.replicate, ↓q_cond_t, ↓q_cond_f, if_true, if_false, reduceCtorEq, rvals, rvC, result, C_known, V.noL, C.noL, S_noL, R.noL, Option.map, true_and, and_true, ge_iff_le, gt_iff_lt, implies_true, q_ite_t, q_ite_f, beq_iff_eq, bne_iff_ne, q_ne, Nat.reduceAdd, Nat.reducePow, Int.reducePow, Nat.reduceMul, Nat.reduceSub, Nat.reduceLeDiff, Nat.reduceLT, Nat.reduceEqDiff, Int.reduceNeg, Int.reduceLT, Int.reduceLE, Int.reduceEq, Int.reduceNe, Int.reduceAdd, Int.reduceSub, Int.reduceMul, Int.reduceToNat, Int.reduceBEq, Int.reduceBNe, df48, h1', h2]
          exact hS
    · exact hS.elim
  · exact hS.elim

end Tl
end Go.Proofs.Yteeeidldknlblaa

/- Layer 4: the document's flushes; plays; looks. -/
namespace Go.Proofs.Yteeeidldknlblaa
namespace Tl
open Go.D
set_option linter.all false
set_option maxRecDepth 100000
set_option maxHeartbeats 4000000

theorem nil_iff {l : Ln} : l.nil = true ↔ l = Ln.z := by
  cases l
  simp [Ln.nil, Ln.z]

theorem atF_spec (a p : Int) : ∀ (L : List Ln) (i : Nat), (atF a p L i = -1 ∧ ∀ l, l ∈ L → l.hit a p = false) ∨ ∃ (j : Nat) (hj : j < L.length), atF a p L i = ((i + j : Nat) : Int) ∧ L[j].hit a p = true
  | [], i => .inl ⟨rfl, fun l hl => by cases hl⟩
  | l :: L, i => by
    unfold atF
    cases hl : l.hit a p with
    | true => exact .inr ⟨0, by simp, by simp, hl⟩
    | false =>
      rcases atF_spec a p L (i + 1) with ⟨e, hn⟩ | ⟨j, hj, e, hh⟩
      · left
        refine ⟨by simpa using e, fun x hx => ?_⟩
        rcases List.mem_cons.1 hx with rfl | hx
        · exact hl
        · exact hn x hx
      · right
        refine ⟨j + 1, by simp only [List.length_cons]; omega, ?_, by simpa using hh⟩
        simp only [Bool.false_eq_true, if_false, e]; omega

def pageQ (a p : Int) (l : Ln) : Bool := l.a == a && l.p == p

theorem flush_none {a p : Int} {L : List Ln} (g : okL L) (h : ∀ l, l ∈ L → l.hit a p = false) : sieve (pageQ a p) L = L := by
  unfold sieve
  refine (List.map_congr_left fun l hl => ?_).trans (List.map_id L)
  show (if pageQ a p l = true then Ln.z else l) = l
  split
  · rename_i hq
    rcases g l hl with rfl | hne
    · rfl
    · have := h l hl
      rw [hit_ok (.inr hne)] at this
      have h1 : (l.a != 0) = true := by simp [hne]
      rw [h1, Bool.true_and] at this
      unfold pageQ at hq
      rw [hq] at this; cases this
  · rfl

theorem flush_one {a p : Int} {L : List Ln} (g : okT L) {j : Nat} (hj : j < L.length) (h : L[j].hit a p = true) : sieve (pageQ a p) L = L.set j Ln.z := by
  apply List.ext_getElem?
  intro i
  unfold sieve
  rw [List.getElem?_map, List.getElem?_set]
  have hjn : L[j].nil = false ∧ (L[j].a == a && L[j].p == p) = true := by
    simpa [Ln.hit] using h
  rcases Nat.lt_or_ge i L.length with hi | hi
  · rw [List.getElem?_eq_getElem hi]
    simp only [Option.map_some]
    by_cases e : j = i
    · subst e
      rw [if_pos rfl, if_pos hj]
      unfold pageQ
      rw [hjn.2]; rfl
    · rw [if_neg e]
      congr 1
      split
      · rename_i hq
        unfold pageQ at hq
        by_cases hn : L[i].nil = true
        · exact (nil_iff.1 hn).symm
        · have hn : L[i].nil = false := by simpa using hn
          exfalso
          simp only [Bool.and_eq_true, beq_iff_eq] at hq hjn
          rcases Nat.lt_or_gt_of_ne e with h1 | h1
          · have := List.pairwise_iff_getElem.1 g.one j i hj hi h1 hjn.1 hn
            simp [hq.1, hq.2, hjn.2.1, hjn.2.2] at this
          · have := List.pairwise_iff_getElem.1 g.one i j hi hj h1 hn hjn.1
            simp [hq.1, hq.2, hjn.2.1, hjn.2.2] at this
      · rfl
  · rw [List.getElem?_eq_none hi]
    simp only [Option.map_none]
    rw [if_neg (by omega)]

def part (f : Ln → Ln) (L : List Ln) (i : Nat) : List Ln := (L.take i).map f ++ L.drop i
theorem part_len {f : Ln → Ln} {L : List Ln} {i : Nat} : (part f L i).length = L.length := by
  simp only [part, List.length_append, List.length_map, List.length_take, List.length_drop]; omega
theorem part_zero {f : Ln → Ln} {L : List Ln} : part f L 0 = L := by simp [part]
theorem part_all {f : Ln → Ln} {L : List Ln} {n : Nat} (h : L.length = n) : part f L n = L.map f := by subst h; simp [part]
theorem part_get {f : Ln → Ln} {L : List Ln} {i : Nat} (h : i < L.length) : nth Ln.z (part f L i) i = nth Ln.z L i := by
  have h1 : i < (part f L i).length := by rw [part_len]; exact h
  have e : (part f L i)[i]? = L[i]? := by
    unfold part
    rw [List.getElem?_append_right (by simp; omega), List.getElem?_drop]
    simp only [List.length_map, List.length_take]
    congr 1; omega
  rw [nth_get (d := Ln.z) h1, nth_get (d := Ln.z) h] at e
  exact Option.some.inj e
theorem part_step {f : Ln → Ln} {L : List Ln} {i : Nat} (h : i < L.length) : part f L (i + 1) = (part f L i).set i (f (nth Ln.z L i)) := by
  have hl : ((L.take i).map f).length = i := by simp; omega
  unfold part
  rw [List.take_succ_eq_append_getElem h, List.map_append, List.append_assoc]
  rw [List.set_append_right _ _ (by omega), hl, Nat.sub_self, List.drop_eq_getElem_cons h, List.set_cons_zero, nth_eq h]
  rfl
theorem part_skip {f : Ln → Ln} {L : List Ln} {i : Nat} (h : i < L.length) (hf : f (nth Ln.z L i) = nth Ln.z L i) : part f L (i + 1) = part f L i := by
  rw [part_step h, hf, ← part_get (f := f) h]
  have h1 : i < (part f L i).length := by rw [part_len]; exact h
  exact set_same (nth_get h1)

theorem rFlushAsid_snd : Snd Try.prog 49 (FSpec.of flushAsidG) := snd_run (noT_snd _) mixed Try.func49 dc49 100 fun args h K _ hS => by
  unfold flushAsidG at hS
  split at hS
  · rename_i k a
    split at hS
    · rename_i B hk
      obtain ⟨⟨hB, h8⟩, hS⟩ := hS
      generalize dec B.cells = L at *
      subst hB
      rw [spec_ok] at hS
      have hits := fun (M : List Ln) => set_hit (B' := tlbB M) hk
      let f : Ln → Ln := fun l => if l.a == a then Ln.z else l
      simp (config := { maxSteps := 10000000 }) only [EV1, EV2, EV3, EV4, EV5, EV6, addT, istep, lenR_sl, lenR_ns, lenR_es, pickR, putD, bin1R, un1R, slcR, bnd, capsOf, fillP, S_plain, V_plain, V.cells, S_known, V_known, C.v, blk, setL, setH, eqS, eq1, cmpS, cmp1, isNil, popTo, killT, setT, leT, V.below, C.below, S_below, R.below, V.val, C.val, S_val, R.val, R.takes, vals, shows, List.any_cons, List.any_nil, unnamed, V.kill, V.names, C.names, S_names, R.names, List.set, List.replicate, ↓q_cond_t, ↓q_cond_f, if_true, if_false, reduceCtorEq, rvals, rvC, result, C_known, V.noL, C.noL, S_noL, R.noL, Option.map, true_and, and_true, ge_iff_le, gt_iff_lt, implies_true, q_ite_t, q_ite_f, beq_iff_eq, bne_iff_ne, q_ne, Nat.reduceAdd, Nat.reducePow, Int.reducePow, Nat.reduceMul, Nat.reduceSub, Nat.reduceLeDiff, Nat.reduceLT, Nat.reduceEqDiff, Int.reduceNeg, Int.reduceLT, Int.reduceLE, Int.reduceEq, Int.reduceNe, Int.reduceAdd, Int.reduceSub, Int.reduceMul, Int.reduceToNat, Int.reduceBEq, Int.reduceBNe, df49]
      refine loop_rule (α := Nat) [4, 5, 6, 7, 8, 9, 10, 11, 12, 13, 14, 15, 16, 17, 18, 19, 20, 21, 22, 23] (fun i => [(4, .s (.i .i64 i))]) (fun _ => []) (fun i => h.set k (tlbB (part f L i)))
        (fun i => i ≤ 8) (fun i => 8 - i) 0 (by omega) ?_ ?_
      · refine Wk.same rfl ?_ ?_
        · rw [part_zero, set_self hk]
        · simp (config := { maxSteps := 10000000 }) only [EV1, EV2, EV3, EV4, EV5, EV6, addT, istep, lenR_sl, lenR_ns, lenR_es, pickR, putD, bin1R, un1R, slcR, bnd, capsOf, fillP, S_plain, V_plain, V.cells, S_known, V_known, C.v, blk, setL, setH, eqS, eq1, cmpS, cmp1, isNil, popTo, killT, setT, leT, V.below, C.below, S_below, R.below, V.val, C.val, S_val, R.val, R.takes, vals, shows, List.any_cons, List.any_nil, unnamed, V.kill, V.names, C.names, S_names, R.names, List.set, List.replicate, ↓q_cond_t, ↓q_cond_f, if_true, if_false, reduceCtorEq, rvals, rvC, result, C_known, V.noL, C.noL, S_noL, R.noL, Option.map, true_and, and_true, ge_iff_le, gt_iff_lt, implies_true, q_ite_t, q_ite_f, beq_iff_eq, bne_iff_ne, q_ne, Nat.reduceAdd, Nat.reducePow, Int.reducePow, Nat.reduceMul, Nat.reduceSub, Nat.reduceLeDiff, Nat.reduceLT, Nat.reduceEqDiff, Int.reduceNeg, Int.reduceLT, Int.reduceLE, Int.reduceEq, Int.reduceNe, Int.reduceAdd, Int.reduceSub, Int.reduceMul, Int.reduceToNat, Int.reduceBEq, Int.reduceBNe, Int.natCast_zero]
      · rintro X i hi IH
        rcases Nat.lt_or_ge i 8 with hi8 | hi8
        · have F := idx hi8 (by omega)
          have E := Ln.at_ (L := part f L i) (i := i) (by rw [part_len]; omega)
          have hg : nth Ln.z (part f L i) i = nth Ln.z L i := part_get (by omega)
          have hi8' : (i : Int) < 8 := by omega
          have hl32 : (arr Ln.c (part f L i)).length = 32 := by rw [arr_length Ln.c_len, part_len, h8]
          have hp := fun a p x r => arr_put4 (L := part f L i) (n := i) (by rw [part_len]; omega) a p x r
          have hle : i * 4 + 4 ≤ 32 := by omega
          rw [hg] at E
          refine run_sound (Tab.ok_Γ _) 100 _ _ _ _ ?_
          simp (config := { maxSteps := 10000000 }) only [EV1, EV2, EV3, EV4, EV5, EV6, addT, istep, lenR_sl, lenR_ns, lenR_es, pickR, putD, bin1R, un1R, slcR, bnd, capsOf, fillP, S_plain, V_plain, V.cells, S_known, V_known, C.v, blk, setL, setH, eqS, eq1, cmpS, cmp1, isNil, popTo, killT, setT, leT, V.below, C.below, S_below, R.below, V.val, C.val, S_val, R.val, R.takes, vals, shows, List.any_cons, List.any_nil, unnamed, V.kill, V.names, C.names, S_names, R.names, List.set, List.replicate, ↓q_cond_t, ↓q_cond_f, if_true, if_false, reduceCtorEq, rvals, rvC, result, C_known, V.noL, C.noL, S_noL, R.noL, Option.map, true_and, and_true, ge_iff_le, gt_iff_lt, implies_true, q_ite_t, q_ite_f, beq_iff_eq, bne_iff_ne, q_ne, Nat.reduceAdd, Nat.reducePow, Int.reducePow, Nat.reduceMul, Nat.reduceSub, Nat.reduceLeDiff, Nat.reduceLT, Nat.reduceEqDiff, Int.reduceNeg, Int.reduceLT, Int.reduceLE, Int.reduceEq, Int.reduceNe, Int.reduceAdd, Int.reduceSub, Int.reduceMul, Int.reduceToNat, Int.reduceBEq, Int.reduceBNe, F, E.1, E.2.1, hi8', hits, tlbB_st, tlbB_cells, tlbB_room, hl32, hle, hp]
          refine ⟨fun h1 => IH (i + 1) _ (by omega) (by omega) (Wk.same rfl ?_ ?_), fun h1 => IH (i + 1) _ (by omega) (by omega) (Wk.same rfl ?_ ?_)⟩
          · rw [part_step (by omega), List.set_set]
            have : f (nth Ln.z L i) = Ln.z := if_pos (by simpa using h1)
            rw [this]; rfl
          · simp (config := { maxSteps := 10000000 }) only [EV1, EV2, EV3, EV4, EV5, EV6, addT, istep, lenR_sl, lenR_ns, lenR_es, pickR, putD, bin1R, un1R, slcR, bnd, capsOf, fillP, S_plain, V_plain, V.cells, S_known, V_known, C.v, blk, setL, setH, eqS, eq1, cmpS, cmp1, isNil, popTo, killT, setT, leT, V.below, C.below, S_below, R.below, V.val, C.val, S_val, R.val, R.takes, vals, shows, List.any_cons, List.any_nil, unnamed, V.kill, V.names, C.names, S_names, R.names, List.set, List.replicate, ↓q_cond_t, ↓q_cond_f, if_true, if_false, reduceCtorEq, rvals, rvC, result, C_known, V.noL, C.noL, S_noL, R.noL, Option.map, true_and, and_true, ge_iff_le, gt_iff_lt, implies_true, q_ite_t, q_ite_f, beq_iff_eq, bne_iff_ne, q_ne, Nat.reduceAdd, Nat.reducePow, Int.reducePow, Nat.reduceMul, Nat.reduceSub, Nat.reduceLeDiff, Nat.reduceLT, Nat.reduceEqDiff, Int.reduceNeg, Int.reduceLT, Int.reduceLE, Int.reduceEq, Int.reduceNe, Int.reduceAdd, Int.reduceSub, Int.reduceMul, Int.reduceToNat, Int.reduceBEq, Int.reduceBNe]
          · have e : f (nth Ln.z L i) = nth Ln.z L i := if_neg (by simpa using h1)
            rw [part_skip (by omega) e]
          · simp (config := { maxSteps := 10000000 }) only [EV1, EV2, EV3, EV4, EV5, EV6, addT, istep, lenR_sl, lenR_ns, lenR_es, pickR, putD, bin1R, un1R, slcR, bnd, capsOf, fillP, S_plain, V_plain, V.cells, S_known, V_known, C.v, blk, setL, setH, eqS, eq1, cmpS, cmp1, isNil, popTo, killT, setT, leT, V.below, C.below, S_below, R.below, V.val, C.val, S_val, R.val, R.takes, vals, shows, List.any_cons, List.any_nil, unnamed, V.kill, V.names, C.names, S_names, R.names, List.set, List.replicate, ↓q_cond_t, ↓q_cond_f, if_true, if_false, reduceCtorEq, rvals, rvC, result, C_known, V.noL, C.noL, S_noL, R.noL, Option.map, true_and, and_true, ge_iff_le, gt_iff_lt, implies_true, q_ite_t, q_ite_f, beq_iff_eq, bne_iff_ne, q_ne, Nat.reduceAdd, Nat.reducePow, Int.reducePow, Nat.reduceMul, Nat.reduceSub, Nat.reduceLeDiff, Nat.reduceLT, Nat.reduceEqDiff, Int.reduceNeg, Int.reduceLT, Int.reduceLE, Int.reduceEq, Int.reduceNe, Int.reduceAdd, Int.reduceSub, Int.reduceMul, Int.reduceToNat, Int.reduceBEq, Int.reduceBNe]
        · have : i = 8 := by omega
          subst this
          refine run_sound (Tab.ok_Γ _) 100 _ _ _ _ ?_
          simp (config := { maxSteps := 10000000 }) only [EV1, EV2, EV3, EV4, EV5, EV6, addT, istep, lenR_sl, lenR_ns, lenR_es, pickR, putD, bin1R, un1R, slcR, bnd, capsOf, fillP, S_plain, V_plain, V.cells, S_known, V_known, C.v, blk, setL, setH, eqS, eq1, cmpS, cmp1, isNil, popTo, killT, setT, leT, V.below, C.below, S_below, R.below, V.val, C.val, S_val, R.val, R.takes, vals, shows, List.any_cons, List.any_nil, unnamed, V.kill, V.names, C.names, S_names, R.names, List.set, List.replicate, ↓q_cond_t, ↓q_cond_f, if_true, if_false, reduceCtorEq, rvals, rvC, result, C_known, V.noL, C.noL, S_noL, R.noL, Option.map, true_and, and_true, ge_iff_le, gt_iff_lt, implies_true, q_ite_t, q_ite_f, beq_iff_eq, bne_iff_ne, q_ne, Nat.reduceAdd, Nat.reducePow, Int.reducePow, Nat.reduceMul, Nat.reduceSub, Nat.reduceLeDiff, Nat.reduceLT, Nat.reduceEqDiff, Int.reduceNeg, Int.reduceLT, Int.reduceLE, Int.reduceEq, Int.reduceNe, Int.reduceAdd, Int.reduceSub, Int.reduceMul, Int.reduceToNat, Int.reduceBEq, Int.reduceBNe, Int.lt_irrefl, q_cast]
          rw [part_all h8]
          exact hS
    · exact hS.elim
  · exact hS.elim

end Tl
end Go.Proofs.Yteeeidldknlblaa

/- Layer 4: plays, looks. -/
namespace Go.Proofs.Yteeeidldknlblaa
namespace Tl
open Go.D
set_option linter.all false
set_option maxRecDepth 100000
set_option maxHeartbeats 4000000

/-- What an operation makes of the lines. -/
def stepF (w a p x r at_ : Int) (L : List Ln) : List Ln :=
  if w = 2 then (if fillB ⟨a, p, x, r⟩ at_ = true then L.set (slotF ⟨a, p, x, r⟩ at_ L) ⟨a, p, x, r⟩ else L)
  else if w = 3 then (if 0 ≤ at_ ∧ at_ ≤ 7 then L.set at_.toNat Ln.z else L)
  else if w = 4 then sieve (pageQ a p) L
  else if w = 5 then sieve (fun l => l.a == a) L
  else if w = 6 then sieve (fun _ => true) L
  else L

/-- Two buffers of the same lines. -/
def twoG (f : List Ln → List Blk → Nat → Nat → Res) : List V → List Blk → Res
  | .s (.p (.g k) 0) :: .s (.p (.g j) 0) :: _, h => match h[k]?, h[j]? with
    | some B, some B' => .ob (isTlb B ∧ B' = B ∧ k ≠ j ∧ okT (dec B.cells)) (f (dec B.cells) h k j)
    | _, _ => .bad
  | _, _ => .bad

def playsG : List V → List Blk → Res
  | [.s (.p (.g k) 0), .s (.p (.g j) 0), .agg [.i .i64 w, .i .i64 a, .i .i64 p, .i .i64 x, .i .i64 r, .i .i64 at_]], h => match h[k]?, h[j]? with
    | some B, some B' => .ob (isTlb B ∧ B' = B ∧ k ≠ j ∧ okT (dec B.cells))
        (.ok (.s (.b true)) [] ((h.set k (tlbB (stepF w a p x r at_ (dec B.cells)))).set j (tlbB (stepF w a p x r at_ (dec B.cells)))))
    | _, _ => .bad
  | _, _ => .bad

end Tl
end Go.Proofs.Yteeeidldknlblaa

/- The arguments of a statement: what is read of them becomes values over read-only blocks; behind the call they read as before. -/
namespace Go.D
set_option linter.all false

inductive TY where
  | int (k : IntKind)
  | bool
  | slice (e : List TY)

mutual
/-- A cell of a type, over a heap of blocks. -/
def hasT (h : List Blk) : TY → S → Prop
  | .int k, s => ∃ n, s = .i k n ∧ (Lit.int k n).wf = true
  | .bool, s => ∃ b, s = .b b
  | .slice e, s => s = .ns ∨ (∃ a c, s = .es a c) ∨ ∃ (j n c : Nat) (E : List (List S)) (st : BK) (room : Nat), s = .sl (.g j) 0 n c ∧ n ≤ c ∧ n ≤ 140737488355328 ∧ h[j]? = some ⟨st, E.flatten, room⟩ ∧ E.length = n ∧ (n ≠ 0 → st = .ro) ∧ st ≠ .rw ∧ ∀ x, x ∈ E → hasTs h e x
def hasTs (h : List Blk) : List TY → List S → Prop
  | [], [] => True
  | t :: ts, s :: ss => hasT h t s ∧ hasTs h ts ss
  | _, _ => False
end

/-- A heap of blocks that are only read. -/
structure RO (σ : Sg) (h : List Blk) (w : World) : Prop where
  ok : ∀ k B, h[k]? = some B → B.st ≠ .rw ∧ OkBlk σ w (.g k) B
  val : ∀ B, B ∈ h → vals h.length 0 B.cells = true

theorem RO.sim {σ : Sg} {h : List Blk} {w : World} (H : RO σ h w) : Sim σ h [] w := by
  refine ⟨fun r B hb => ?_, fun r r' B B' hb hb' hne hst hd => ?_, H.val, fun B hB => by cases hB⟩
  · cases r with
    | g k => exact (H.ok k B hb).2
    | l k => simp [blk] at hb
  · cases r with
    | g k => exact absurd hst (H.ok k B hb).1
    | l k => simp [blk] at hb

mutual
theorem hasT_mono {h h' : List Blk} : ∀ {t : TY} {s : S}, hasT h t s → hasT (h ++ h') t s
  | .int k, s, hs => hs
  | .bool, s, hs => hs
  | .slice e, s, hs => by
    rcases hs with hs | hs | ⟨j, n, c, E, st, room, h1, h2, h3, h4, h5, h6, h7, h8⟩
    · exact .inl hs
    · exact .inr (.inl hs)
    · exact .inr (.inr ⟨j, n, c, E, st, room, h1, h2, h3, by rw [List.getElem?_append_left (List.getElem?_eq_some_iff.1 h4).1]; exact h4, h5, h6, h7, fun x hx => hasTs_mono (h8 x hx)⟩)
theorem hasTs_mono {h h' : List Blk} : ∀ {ts : List TY} {ss : List S}, hasTs h ts ss → hasTs (h ++ h') ts ss
  | [], [], _ => trivial
  | t :: ts, s :: ss, hs => ⟨hasT_mono hs.1, hasTs_mono hs.2⟩
  | [], _ :: _, hs => hs.elim
  | _ :: _, [], hs => hs.elim
end

/-! ### types, flattened -/
def tyFields (P : Program) (r : TypeId → Option (List TY)) : List Field → Nat → Option (List TY)
  | [], _ => some []
  | f :: fs, off => match r f.type, tyFields P r fs (off + P.cellsOf f.type) with
    | some l, some q => if f.offset = off ∧ l.length = P.cellsOf f.type then some (l ++ q) else none
    | _, _ => none

/-- The cells of a type. -/
def tyOf (P : Program) : Nat → TypeId → Option (List TY)
  | 0, _ => none
  | d + 1, t => match P.underlying t with
    | some (.int k) => some [.int k]
    | some .bool => some [.bool]
    | some (.slice e) => match tyOf P d e with
      | some l => if l.length = P.cellsOf e ∧ 0 < l.length ∧ 0 < P.bytesOf e then some [.slice l] else none
      | none => none
    | some (.struct fs) => match tyFields P (tyOf P d) fs.toList 0 with
      | some l => if l.length = P.cellsOf t then some l else none
      | none => none
    | some (.array n e) => match tyOf P d e with
      | some l => if l.length = P.cellsOf e ∧ P.cellsOf t = n * P.cellsOf e then some (List.replicate n l).flatten else none
      | none => none
    | _ => none

section
variable {H : Type} {enc : TypeId × Value → H} {P : Program} {w : World}

/-- Cells of such types become values over read-only blocks. -/
def Opens (w : World) (cs : List Value) (tys : List TY) : Prop :=
  ∀ (σ : Sg) (h : List Blk), RO σ h w → ∃ (h' : List Blk) (σ' : Sg) (ss : List S), (∀ k, k < h.length → σ' (.g k) = σ (.g k)) ∧ RO σ' (h ++ h') w ∧ hasTs (h ++ h') tys ss ∧ ss.map (S.tr σ') = cs ∧ vals (h ++ h').length 0 ss = true ∧ known ss = true

theorem hasTs_append {h : List Blk} : ∀ {t1 t2 : List TY} {s1 s2 : List S}, hasTs h t1 s1 → hasTs h t2 s2 → hasTs h (t1 ++ t2) (s1 ++ s2)
  | [], _, [], _, _, h2 => h2
  | _ :: _, _, _ :: _, _, h1, h2 => ⟨h1.1, hasTs_append h1.2 h2⟩
  | [], _, _ :: _, _, h1, _ => h1.elim
  | _ :: _, _, [], _, h1, _ => h1.elim

theorem hasTs_length {h : List Blk} : ∀ {ts : List TY} {ss : List S}, hasTs h ts ss → ss.length = ts.length
  | [], [], _ => rfl
  | _ :: _, _ :: _, h1 => by simp [hasTs_length h1.2]
  | [], _ :: _, h1 => h1.elim
  | _ :: _, [], h1 => h1.elim

/-- What is valid among the first blocks is translated alike. -/
theorem trs_old {σ σ' : Sg} {n : Nat} (hA : ∀ k, k < n → σ' (.g k) = σ (.g k)) {ss : List S} (hv : vals n 0 ss = true) : ss.map (S.tr σ') = ss.map (S.tr σ) := by
  simp only [vals, List.all_eq_true] at hv
  refine List.map_congr_left fun s hs => S.tr_congr (n := n) (m := 0) (fun r hr => ?_) s (hv s hs)
  cases r with
  | g k => exact hA k (by simpa [R.val] using hr)
  | l k => simp [R.val] at hr

theorem Opens.nil : Opens w [] [] := fun σ h H => ⟨[], σ, [], fun _ _ => rfl, by simpa using H, trivial, rfl, rfl, rfl⟩

theorem Opens.append {c1 c2 : List Value} {t1 t2 : List TY} (h1 : Opens w c1 t1) (h2 : Opens w c2 t2) : Opens w (c1 ++ c2) (t1 ++ t2) := fun σ h H => by
  obtain ⟨ha, σa, sa, a1, a2, a3, a4, a5, a6⟩ := h1 σ h H
  obtain ⟨hb, σb, sb, b1, b2, b3, b4, b5, b6⟩ := h2 σa (h ++ ha) a2
  refine ⟨ha ++ hb, σb, sa ++ sb, fun k hk => ?_, by rw [← List.append_assoc]; exact b2, ?_, ?_, ?_, ?_⟩
  · rw [b1 k (by simp; omega), a1 k hk]
  · rw [← List.append_assoc]; exact hasTs_append (hasTs_mono a3) b3
  · rw [List.map_append, b4, trs_old b1 a5, a4]
  · rw [← List.append_assoc]
    simp only [vals, List.all_append, Bool.and_eq_true]
    exact ⟨vals_mono (by simp) (Nat.le_refl _) a5, b5⟩
  · simp only [known, List.all_append, Bool.and_eq_true]
    exact ⟨a6, b6⟩

theorem Opens.one {v : Value} {t : TY} (h : ∀ σ : Sg, ∀ h : List Blk, ∃ s : S, hasT h t s ∧ s.tr σ = v ∧ s.val 0 0 = true ∧ V.known (.s s) = true) : Opens w [v] [t] := fun σ h0 H => by
  obtain ⟨s, e1, e2, e3, e4⟩ := h σ h0
  refine ⟨[], σ, [s], fun _ _ => rfl, by simpa using H, ⟨by simpa using e1, trivial⟩, by simp [e2], ?_, ?_⟩
  · simp only [vals, List.all_cons, List.all_nil, Bool.and_true]
    exact S.val_mono (Nat.zero_le _) (Nat.zero_le _) e3
  · rw [known_cons, e4]; rfl

/-- Many elements, one after the other. -/
theorem Opens.list {l : List TY} (C : Nat → List Value) : ∀ m : Nat, (∀ i, i < m → Opens w (C i) l) → ∀ (σ : Sg) (h : List Blk), RO σ h w → ∃ (h' : List Blk) (σ' : Sg) (E : List (List S)), (∀ k, k < h.length → σ' (.g k) = σ (.g k)) ∧ RO σ' (h ++ h') w ∧ E.length = m ∧
      (∀ x, x ∈ E → hasTs (h ++ h') l x) ∧ E.flatten.map (S.tr σ') = ((List.range m).map C).flatten ∧ vals (h ++ h').length 0 E.flatten = true ∧ known E.flatten = true
  | 0, _, σ, h, H => ⟨[], σ, [], fun _ _ => rfl, by simpa using H, rfl, fun x hx => absurd hx List.not_mem_nil, rfl, rfl, rfl⟩
  | m + 1, hC, σ, h, H => by
    obtain ⟨ha, σa, E, a1, a2, a3, a4, a5, a6, a7⟩ := Opens.list C m (fun i hi => hC i (by omega)) σ h H
    obtain ⟨hb, σb, sb, b1, b2, b3, b4, b5, b6⟩ := hC m (by omega) σa (h ++ ha) a2
    refine ⟨ha ++ hb, σb, E ++ [sb], fun k hk => ?_, by rw [← List.append_assoc]; exact b2, by simp [a3], fun x hx => ?_, ?_, ?_, ?_⟩
    · rw [b1 k (by simp; omega), a1 k hk]
    · rw [← List.append_assoc]
      rcases List.mem_append.1 hx with h1 | h1
      · exact hasTs_mono (a4 x h1)
      · simp only [List.mem_singleton] at h1; subst h1; exact b3
    · rw [List.flatten_append, List.map_append, trs_old b1 a6, a5, List.range_succ, List.map_append, List.flatten_append]
      simp [b4]
    · rw [← List.append_assoc, List.flatten_append, show [sb].flatten = sb by simp]
      simp only [vals, List.all_append, Bool.and_eq_true]
      exact ⟨vals_mono (by simp) (Nat.le_refl _) a6, b5⟩
    · rw [List.flatten_append, show [sb].flatten = sb by simp]
      simp only [known, List.all_append, Bool.and_eq_true]
      exact ⟨a7, b6⟩

/-- A slice of such elements. -/
theorem Opens.slice {l : List TY} {a : Addr} {len cap k : Nat} (ha : a.spot = none) (hk : l.length = k) (hlc : len ≤ cap) (hcm : len ≤ 140737488355328) (C : Nat → List Value) (hC : ∀ i, i < len → Opens w (C i) l)
    (hcell : ∀ i j, i < len → j < k → ∃ v, (C i)[j]? = some v ∧ w.cell? (a.add (i * k + j)) = some v) (hlen : ∀ i, i < len → (C i).length = k) (hsz : len ≠ 0 → a.block < w.heap.size) : Opens w [.slice (some a) len cap] [.slice l] := fun σ h H => by
  obtain ⟨ha', σa, E, a1, a2, a3, a4, a5, a6, a7⟩ := Opens.list C len hC σ h H
  let n := (h ++ ha').length
  let σ' : Sg := fun r => if r = .g n then (a.block, a.off) else σa r
  have hσ : ∀ k, k < n → σ' (.g k) = σa (.g k) := fun k hk => by
    show (if R.g k = .g n then _ else _) = _
    rw [if_neg (by intro e; cases e; omega)]
  have hσn : σ' (.g n) = (a.block, a.off) := by
    show (if R.g n = .g n then _ else _) = _
    rw [if_pos rfl]
  have hEl : ∀ x, x ∈ E → x.length = k := fun x hx => by rw [hasTs_length (a4 x hx), hk]
  have hEt : E.flatten.map (S.tr σ') = ((List.range len).map C).flatten := by rw [trs_old hσ a6, a5]
  have hflat : ∀ (m : Nat) (q : Nat) (v : Value), m ≤ len → (((List.range m).map C).flatten)[q]? = some v → w.cell? (a.add q) = some v ∧ q < m * k := by
    intro m
    induction m with
    | zero => intro q v _ h; simp at h
    | succ m ih =>
      intro q v hm hq
      have hl : (((List.range m).map C).flatten).length = m * k := by
        have : ∀ m', m' ≤ len → (((List.range m').map C).flatten).length = m' * k := by
          intro m'
          induction m' with
          | zero => intro _; simp
          | succ m' ih' => intro hm'; rw [List.range_succ, List.map_append, List.flatten_append, List.length_append, ih' (by omega)]; simp [hlen m' (by omega), Nat.succ_mul]
        exact this m (by omega)
      rw [List.range_succ, List.map_append, List.flatten_append] at hq
      by_cases hlt : q < m * k
      · rw [List.getElem?_append_left (by omega)] at hq
        obtain ⟨h1, h2⟩ := ih q v (by omega) hq
        exact ⟨h1, by rw [Nat.succ_mul]; omega⟩
      · rw [List.getElem?_append_right (by omega), hl] at hq
        simp only [List.map_cons, List.map_nil, List.flatten_cons, List.flatten_nil, List.append_nil] at hq
        have hj : q - m * k < k := by
          have := (List.getElem?_eq_some_iff.1 hq).1
          rw [hlen m (by omega)] at this; exact this
        obtain ⟨v', h1, h2⟩ := hcell m (q - m * k) (by omega) hj
        rw [hq] at h1
        cases h1
        have e : m * k + (q - m * k) = q := by omega
        rw [e] at h2
        exact ⟨h2, by rw [Nat.succ_mul]; omega⟩
  let B : Blk := ⟨if len = 0 then .dead else .ro, E.flatten, 0⟩
  have hBst : B.st ≠ .rw := by
    show (if len = 0 then BK.dead else .ro) ≠ .rw
    split <;> simp
  have hn1 : (h ++ (ha' ++ [B])).length = n + 1 := by simp only [n, List.length_append, List.length_cons, List.length_nil]; omega
  refine ⟨ha' ++ [B], σ', [.sl (.g n) 0 len cap], fun k hk => ?_, ⟨fun k B' hB => ?_, fun B' hB => ?_⟩, ⟨.inr (.inr ⟨n, len, cap, E, _, 0, rfl, hlc, hcm, ?_, a3, fun h0 => if_neg h0, hBst, fun x hx => ?_⟩), trivial⟩, ?_, ?_, rfl⟩
  · rw [hσ k (by show k < (h ++ ha').length; simp; omega), a1 k hk]
  · rw [← List.append_assoc] at hB
    by_cases hk : k < n
    · rw [List.getElem?_append_left hk] at hB
      obtain ⟨c1, c2⟩ := a2.ok k B' hB
      refine ⟨c1, c2.move (n := n) (m := 0) (hσ k hk) (fun r hr => ?_) (a2.val B' (List.mem_of_getElem? hB)) (Nat.le_refl _) (fun _ => rfl)⟩
      cases r with
      | g i => exact hσ i (by simpa [R.val] using hr)
      | l i => simp [R.val] at hr
    · have hkn : k = n := by
        have := (List.getElem?_eq_some_iff.1 hB).1
        simp only [List.length_append, List.length_cons, List.length_nil] at this
        simp only [n, List.length_append] at hk ⊢
        omega
      subst hkn
      rw [List.getElem?_append_right (Nat.le_refl _), Nat.sub_self] at hB
      simp only [List.getElem?_cons_zero, Option.some.injEq] at hB
      subst hB
      refine ⟨hBst, ?_⟩
      unfold OkBlk
      show match (if len = 0 then BK.dead else .ro) with
        | .dead => True
        | .ro => _
        | .rw => _
      by_cases h0 : len = 0
      · rw [if_pos h0]; trivial
      · rw [if_neg h0]
        refine ⟨by rw [hσn]; exact hsz h0, fun i s hs _ => ?_⟩
        have h1 : (E.flatten.map (S.tr σ'))[i]? = some (s.tr σ') := by
          rw [List.getElem?_map, show E.flatten[i]? = some s from hs]; rfl
        rw [hEt] at h1
        have h2 := (hflat len i _ (Nat.le_refl _) h1).1
        have e : a.add i = adr σ' (.g n) i := by
          simp only [adr, hσn, Addr.add]
          cases a; simp only at ha; subst ha
          by_cases hi : i = 0
          · subst hi; simp
          · simp [hi]
        rw [← e]; exact h2
  · rw [hn1]
    rw [← List.append_assoc] at hB
    rcases List.mem_append.1 hB with hB | hB
    · exact vals_mono (Nat.le_succ n) (Nat.le_refl _) (a2.val B' hB)
    · simp only [List.mem_singleton] at hB
      subst hB
      exact vals_mono (Nat.le_succ n) (Nat.le_refl _) a6
  · rw [← List.append_assoc, List.getElem?_append_right (Nat.le_refl _), Nat.sub_self]; rfl
  · rw [← List.append_assoc]; exact hasTs_mono (a4 x hx)
  · simp only [List.map_cons, List.map_nil, S.tr, adr, hσn, Nat.add_zero]
    cases a; simp only at ha; subst ha; rfl
  · rw [hn1]; simp [vals, S.val, R.val]


theorem Opens.fields {d : TypeId → Option (List TY)} {cs : List Value} : ∀ (fs : List Field) (off : Nat) (tys : List TY), tyFields P d fs off = some tys → off + tys.length = cs.length →
      (∀ f, f ∈ fs → ∀ l, d f.type = some l → l.length = P.cellsOf f.type → f.offset + P.cellsOf f.type ≤ cs.length → Opens w ((cs.drop f.offset).take (P.cellsOf f.type)) l) → Opens w (cs.drop off) tys
  | [], off, tys, ht, hl, _ => by
    simp only [tyFields, Option.some.injEq] at ht
    subst ht
    rw [List.drop_eq_nil_of_le (by simp at hl; omega)]
    exact Opens.nil
  | f :: fs, off, tys, ht, hl, hf => by
    simp only [tyFields] at ht
    split at ht
    · rename_i l q h1 h2
      split at ht
      · rename_i hc
        cases ht
        obtain ⟨h3, h4⟩ := hc
        simp only [List.length_append] at hl
        have ih := Opens.fields fs (off + P.cellsOf f.type) q h2 (by omega) (fun g hg => hf g (List.mem_cons_of_mem _ hg))
        have h0 := hf f List.mem_cons_self l h1 h4 (by rw [h3]; omega)
        rw [h3] at h0
        have e : cs.drop off = (cs.drop off).take (P.cellsOf f.type) ++ cs.drop (off + P.cellsOf f.type) := by
          rw [← List.drop_drop, List.take_append_drop]
        rw [e]
        exact h0.append ih
      · cases ht
    · cases ht

theorem Opens.array {k : Nat} {l : List TY} (hk : l.length = k) : ∀ (n : Nat) (cs : List Value), cs.length = n * k → (∀ i, i < n → Opens w ((cs.drop (i * k)).take k) l) → Opens w cs (List.replicate n l).flatten
  | 0, cs, hl, _ => by
    have : cs = [] := by cases cs <;> simp_all
    subst this
    exact Opens.nil
  | n + 1, cs, hl, h => by
    have h0 := h 0 (by omega)
    simp only [Nat.zero_mul, List.drop_zero] at h0
    have ih := Opens.array hk n (cs.drop k) (by simp [hl, Nat.succ_mul]) (fun i hi => by
      have := h (i + 1) (by omega)
      rw [List.drop_drop]
      have e : k + i * k = (i + 1) * k := by rw [Nat.succ_mul]; omega
      rw [e]; exact this)
    have e : cs = cs.take k ++ cs.drop k := (List.take_append_drop _ _).symm
    rw [e, List.replicate_succ, List.flatten_cons]
    exact h0.append ih


theorem weightsAll_mem {e : TypeId} : ∀ {l : List (DataW H)} {d : DataW H}, d ∈ l → ∀ n, n ∈ d.weights P e → n ∈ DataW.weightsAll P e l
  | x :: l, d, h, n, hn => by
    simp only [DataW.weightsAll, List.mem_append]
    rcases List.mem_cons.1 h with rfl | h
    · exact .inl hn
    · exact .inr (weightsAll_mem h n hn)

theorem open_trod {base : Nat} {spare : Nat → Bool} {held : Bool} : ∀ (d : Nat) (n : Nat) (t : TypeId) (cs : List Value) (x : DataW H × List MemPlace) (tys : List TY),
    DataW.trod enc P w base spare held n t cs = some x → tyOf P d t = some tys → (∀ k, k ∈ x.1.weights P t → k ≤ reachBytes) → Opens w cs tys
  | 0, _, _, _, _, _, _, ht, _ => by simp [tyOf] at ht
  | d + 1, n, t, cs, x, tys, hx, ht, hw => by
    simp only [tyOf] at ht
    split at ht
    · rename_i k hu
      cases ht
      obtain ⟨m, rfl, _, hwf⟩ := DataW.trod_int hu hx
      exact Opens.one fun σ h => ⟨.i k m, ⟨m, rfl, hwf⟩, rfl, rfl, rfl⟩
    · rename_i hu
      cases ht
      obtain ⟨b, rfl, _⟩ := DataW.trod_bool hu hx
      exact Opens.one fun σ h => ⟨.b b, ⟨b, rfl⟩, rfl, rfl, rfl⟩
    · rename_i e hu
      split at ht
      · rename_i l hl
        split at ht
        · rename_i hc
          cases ht
          rcases DataW.trod_slice hu hx with ⟨rfl, _⟩ | ⟨a, len, cap, elems, rest, m, _, rfl, rfl, hb, hlc, hcm, hel, hE, _, _⟩
          · exact Opens.one fun σ h => ⟨.ns, .inl rfl, rfl, rfl, rfl⟩
          · by_cases hl0 : len = 0
            · subst hl0
              exact Opens.one fun σ h => ⟨.es a cap, .inr (.inl ⟨a, cap, rfl⟩), rfl, rfl, rfl⟩
            have hget : ∀ i, i < len → ∃ cs', w.cells? base (a.add (i * P.cellsOf e)) (P.cellsOf e) = some cs' ∧ ∃ y, DataW.trod enc P w base spare held m e cs' = some y := fun i hi => by
              have := hE i hi
              rw [List.getElem?_eq_getElem (by omega)] at this
              obtain ⟨cs', h1, h2⟩ := Option.bind_eq_some_iff.1 this
              exact ⟨cs', h1, _, h2⟩
            let C : Nat → List Value := fun i => (w.cells? base (a.add (i * P.cellsOf e)) (P.cellsOf e)).getD []
            have hC : ∀ i, i < len → w.cells? base (a.add (i * P.cellsOf e)) (P.cellsOf e) = some (C i) := fun i hi => by
              obtain ⟨cs', h1, _⟩ := hget i hi
              simp only [C, h1, Option.getD_some]
            have hadd : ∀ i j, (a.add i).add j = a.add (i + j) := fun i j => by
              simp only [Addr.add]
              by_cases hi : i = 0
              · subst hi; simp
              · by_cases hj : j = 0
                · subst hj; simp [hi]
                · simp [hi, hj, Nat.add_assoc]
            have hsp : a.spot = none := by
              obtain ⟨_, h3, h4⟩ := World.cells?_some (hC 0 (by omega))
              have h5 := h4 0 (by have := hc.1; omega)
              rw [List.getElem?_eq_getElem (by have := hc.1; omega)] at h5
              have h6 := World.cell?_spot h5
              simpa [Addr.add] using h6
            have hbound : len ≤ 140737488355328 := by
              have h1 := hw ((elems.length + rest.length) * P.bytesOf e) (by simp [DataW.weights, hu])
              have h2 := reachBytes_lt
              have h3 := hc.2.2
              have h4 : len ≤ (elems.length + rest.length) * P.bytesOf e := by
                calc len ≤ elems.length + rest.length := by omega
                  _ ≤ (elems.length + rest.length) * P.bytesOf e := Nat.le_mul_of_pos_right _ h3
              omega
            refine Opens.slice (k := P.cellsOf e) hsp hc.1 hlc hbound C (fun i hi => ?_) (fun i j hi hj => ?_) (fun i hi => (World.cells?_some (hC i hi)).2.1) (fun h0 => ?_)
            · obtain ⟨cs', h1, y, h2⟩ := hget i hi
              rw [hC i hi] at h1
              cases h1
              have hy : elems[i]? = some y := by
                rw [← hE i hi, hC i hi]; exact h2
              exact open_trod d m e (C i) y l h2 hl fun k hk => hw k (by
                simp only [DataW.weights, hu, List.mem_cons, List.mem_append]
                exact .inr (.inl (weightsAll_mem (List.mem_map.2 ⟨y, List.mem_of_getElem? hy, rfl⟩) k hk)))
            · obtain ⟨_, h3, h4⟩ := World.cells?_some (hC i hi)
              have h5 := h4 j hj
              rw [List.getElem?_eq_getElem (by omega), hadd] at h5
              exact ⟨_, List.getElem?_eq_getElem (by omega), h5⟩
            · have h3 := hC 0 (by omega)
              obtain ⟨_, h4, h5⟩ := World.cells?_some h3
              have h6 := h5 0 (by have := hc.1; omega)
              rw [List.getElem?_eq_getElem (by have := hc.1; omega), hadd] at h6
              simp only [Nat.zero_mul, Nat.add_zero, Addr.add, if_true] at h6
              unfold World.cell? at h6
              cases hb : w.heap[a.block]? with
              | none => rw [hb] at h6; cases h6
              | some o => exact (Array.getElem?_eq_some_iff.1 hb).1
        · cases ht
      · cases ht
    · rename_i fs hu
      split at ht
      · rename_i l hl
        split at ht
        · rename_i hlen
          have ht' : l = tys := by simpa using ht
          rw [← ht']
          obtain ⟨xs, m, _, rfl, hcs, hxs, hf⟩ := DataW.trod_struct hu hx
          have := Opens.fields (w := w) (cs := cs) fs.toList 0 l hl (by omega) (fun f hf' q hq hql hle => by
            obtain ⟨i, hi, rfl⟩ := List.mem_iff_getElem.1 hf'
            have hi' : i < fs.size := by simpa using hi
            have h1 := hf i fs[i] (Array.getElem?_eq_getElem hi')
            rw [List.getElem?_eq_getElem (by omega)] at h1
            exact open_trod d m _ _ _ q h1 hq fun k hk => hw k (by
              simp only [DataW.weights, hu]
              exact DataW.weights_mem_each (j := i) (t := fs[i].type) (d := (xs[i]'(by omega)).1) (by simp [hi']) (by rw [List.getElem?_map, List.getElem?_eq_getElem (by omega)]; rfl) k hk))
          simpa using this
        · cases ht
      · cases ht
    · rename_i m e hu
      split at ht
      · rename_i l hl
        split at ht
        · rename_i hc
          cases ht
          obtain ⟨xs, f, _, rfl, hcs, hxs, hf⟩ := DataW.trod_array hu hx
          refine Opens.array (k := P.cellsOf e) hc.1 m cs (by rw [hcs, hc.2]) (fun i hi => ?_)
          have h1 := hf i hi
          rw [List.getElem?_eq_getElem (by omega)] at h1
          exact open_trod d f _ _ _ l h1 hl fun k hk => hw k (by
            simp only [DataW.weights, hu]
            exact weightsAll_mem (List.mem_map.2 ⟨_, List.getElem_mem _, rfl⟩) k hk)
        · cases ht
      · cases ht
    · cases ht

end

end Go.D

/- A statement's step: its arguments opened, its answer closed. -/
namespace Go.D
set_option linter.all false
open Go.ChangeShapes Go.WideShapes
section
variable {H : Type} {enc : TypeId × Value → H} {P : Program} {W W' : World}

/-- Behind the call each old block is as it was. -/
structure Still (W W' : World) : Prop where
  os : W'.os = W.os
  output : W'.output = W.output
  heap : ∀ b, b < W.heap.size → W'.heap[b]? = W.heap[b]?

theorem Still.keptBut (h : Still W W') (may : MemPlace → Prop) : W.keptBut W' may := by
  refine ⟨h.os, h.output, fun i hi => ?_⟩
  rw [h.heap i hi]
  split
  · rename_i e1 e2
    cases e1.symm.trans e2
    exact ⟨rfl, rfl, rfl, fun _ _ => rfl⟩
  · rename_i e1 e2
    cases e1.symm.trans e2
    exact .inr ⟨rfl, rfl⟩
  · rfl

theorem Still.cell (h : Still W W') {a : Addr} (ha : a.block < W.heap.size) : W'.cell? a = W.cell? a := by
  simp only [World.cell?, h.heap a.block ha]

theorem Still.frozen (h : Still W W') {a : Addr} (ha : a.block < W.heap.size) : W'.frozen? a = W.frozen? a := by
  simp only [World.frozen?, h.heap a.block ha]

theorem Still.same (h : Still W W') {p : MemPlace} (hp : p.block < W.heap.size) : W.sameAt W' p := by
  cases p with
  | cell b off => exact h.cell hp
  | map b => exact h.heap b hp

/-- The statement's answer: true; the arguments read as before. -/
theorem law_post {T : TypeId → Prop} {f : Func} {s : ChangeSpec} {args : Array Value} {ds gs : List (DataW H)} {before : List MemPlace} {bt : TypeId} (K : Kids P T) (hz : ∀ t e, T t → P.underlying t = some (.slice e) → 0 < P.cellsOf e)
    (hT : ∀ t, t ∈ f.params.toList → T t) (hv : s.vars = []) (hbt : P.underlying bt = some .bool) (hrt : f.resultTypes = #[bt]) (hfn : s.fn H (ds ++ gs) = { results := [.lit (.bool true)], args := ds }) {apart : Bool}
    (hW : DataW.Whole enc P f.params.toList s.vars apart W args.toList ds gs before) (hS : Still W W') {fresh handsOn : Bool} :
    s.post enc P f apart fresh handsOn false W args (.bool true) W' := by
  obtain ⟨p, q, hA, hV, hb, hfz, hnd⟩ := id hW
  have hlt : ∀ x, x ∈ before → x.block < W.heap.size := fun x hx => hW.lt x hx
  rw [hv] at hV
  obtain ⟨rfl, rfl⟩ := trodVars_none hV
  simp only [List.append_nil] at hb hfn
  subst hb
  have hcarry : ∀ {ts : List TypeId} {vs : List Value} {ds : List (DataW H)} {p : List MemPlace} {sp : Nat → Bool}, DataW.TrodAll enc P W 0 sp true ts vs ds p → (∀ x, x ∈ p → x.block < W.heap.size) → DataW.TrodAll enc P W' 0 sp true ts vs ds p := by
    intro ts
    induction ts with
    | nil =>
      intro vs ds p sp h _
      cases vs <;> cases ds <;> first | exact h | exact h.elim
    | cons t ts ih =>
      intro vs ds p sp h hp
      match vs, ds, h with
      | v :: vs, d :: ds, ⟨p1, p2, ⟨n, h1⟩, h2, e⟩ =>
        exact ⟨p1, p2, ⟨n, DataW.trod_carry n _ _ _ h1 (fun x hx => hS.same (hp x (by rw [e]; exact List.mem_append_left _ hx)))⟩, ih h2 (fun x hx => hp x (by rw [e]; exact List.mem_append_right _ hx)), e⟩
  have hres : ∀ (b : Nat) (sp : Nat → Bool) (hd : Bool), DataW.TrodAll enc P W' b sp hd f.resultTypes.toList ((Value.bool true).resultList f.resultTypes.size) (s.fn H (ds ++ [])).results [] := fun b sp hd => by
    simp only [List.append_nil, hfn, hrt]
    exact ⟨[], [], ⟨1, by simp [DataW.trod, Value.cells, hbt]⟩, rfl, rfl⟩
  have hsp : ∀ sp : Nat → Bool, (∀ x, x ∈ before → sp x.block = true) → DataW.TrodAll enc P W' 0 sp true f.params.toList args.toList (s.fn H (ds ++ [])).args before := fun sp hx => by
    simp only [List.append_nil, hfn]
    exact hcarry (DataW.TrodAll.respare K hz hT hA hx) hlt
  have hvars : ∀ sp : Nat → Bool, DataW.TrodVars enc P W' sp s.vars (s.fn H (ds ++ [])).vars [] := fun sp => by
    simp only [List.append_nil, hfn, hv]; rfl
  refine ⟨ds, [], before, [], before, [], hW, hres _ _ _, hsp _ (fun x hx => decide_eq_true (hlt x hx)), hvars _, hS.keptBut _, fun h => Bool.noConfusion h⟩
end
end Go.D

/- A statement's row: a law whose small code answers true over whatever read-only arguments holds. -/
namespace Go.D
set_option linter.all false
open Go.ChangeShapes Go.WideShapes

/-- A parameter: is it an aggregate; its cells. -/
def paramTy (P : Program) (d : Nat) (t : TypeId) : Option (Bool × List TY) :=
  match tyOf P d t with
  | some l => match P.underlying t with
    | some (.struct _) => some (true, l)
    | some (.array _ _) => some (true, l)
    | some (.int _) => some (false, l)
    | some .bool => some (false, l)
    | some (.slice _) => some (false, l)
    | _ => none
  | none => none
def paramTys (P : Program) (d : Nat) : List TypeId → Option (List (Bool × List TY))
  | [] => some []
  | t :: ts => match paramTy P d t, paramTys P d ts with
    | some x, some l => some (x :: l)
    | _, _ => none

/-- A parameter's value. -/
def hasV (h : List Blk) : Bool × List TY → V → Prop
  | (true, l), v => ∃ ss, v = .agg ss ∧ hasTs h l ss
  | (false, l), v => ∃ s, v = .s s ∧ hasTs h l [s]
def hasVs (h : List Blk) : List (Bool × List TY) → List V → Prop
  | [], [] => True
  | t :: ts, v :: vs => hasV h t v ∧ hasVs h ts vs
  | _, _ => False

theorem hasV_mono {h h' : List Blk} {t : Bool × List TY} {v : V} (H : hasV h t v) : hasV (h ++ h') t v := by
  obtain ⟨b, l⟩ := t
  cases b with
  | true => obtain ⟨ss, e, H⟩ := H; exact ⟨ss, e, hasTs_mono H⟩
  | false => obtain ⟨s, e, H⟩ := H; exact ⟨s, e, hasTs_mono H⟩

section
variable {H : Type} {enc : TypeId × Value → H} {P : Program} {w : World}

theorem V.tr_old {σ σ' : Sg} {n : Nat} (hA : ∀ k, k < n → σ' (.g k) = σ (.g k)) {v : V} (hv : v.val n 0 = true) : v.tr σ' = v.tr σ :=
  V.tr_congr (n := n) (m := 0) (fun r hr => by
    cases r with
    | g k => exact hA k (by simpa [R.val] using hr)
    | l k => simp [R.val] at hr) v hv

theorem open_arg {r : Reach} {base : Nat} {t : TypeId} {v : Value} {d : DataW H} {p : List MemPlace} {D : Nat} {x : Bool × List TY} {sp : Nat → Bool} {held : Bool} {b0 : Nat}
    (hok : Value.okWide P w r base t v) (ht : DataW.Trod enc P w b0 sp held t v d p) (hx : paramTy P D t = some x) (hw : ∀ k, k ∈ d.weights P t → k ≤ reachBytes) :
    ∀ (σ : Sg) (h : List Blk), RO σ h w → ∃ (h' : List Blk) (σ' : Sg) (u : V), (∀ k, k < h.length → σ' (.g k) = σ (.g k)) ∧ RO σ' (h ++ h') w ∧ hasV (h ++ h') x u ∧ u.tr σ' = v ∧ u.val (h ++ h').length 0 = true ∧ u.known = true := by
  obtain ⟨n, ht⟩ := ht
  unfold paramTy at hx
  split at hx
  · rename_i l hl
    have agg : ∀ cs, v = .agg cs → Row.okWide P w r base t cs → x = (true, l) → ∀ (σ : Sg) (h : List Blk), RO σ h w → ∃ (h' : List Blk) (σ' : Sg) (u : V), (∀ k, k < h.length → σ' (.g k) = σ (.g k)) ∧ RO σ' (h ++ h') w ∧ hasV (h ++ h') x u ∧ u.tr σ' = v ∧ u.val (h ++ h').length 0 = true ∧ u.known = true := by
      intro cs hv hr hx σ h hR
      subst hv; subst hx
      obtain ⟨h', σ', ss, a1, a2, a3, a4, a5, a6⟩ := open_trod D n t cs.toList (d, p) l ht hl hw σ h hR
      refine ⟨h', σ', .agg ss, a1, a2, ⟨ss, rfl, a3⟩, ?_, a5, a6⟩
      simp only [V.tr, trs, a4, Array.toArray_toList]
    have one : v.cells = #[v] → x = (false, l) → ∀ (σ : Sg) (h : List Blk), RO σ h w → ∃ (h' : List Blk) (σ' : Sg) (u : V), (∀ k, k < h.length → σ' (.g k) = σ (.g k)) ∧ RO σ' (h ++ h') w ∧ hasV (h ++ h') x u ∧ u.tr σ' = v ∧ u.val (h ++ h').length 0 = true ∧ u.known = true := by
      intro hc hx σ h hR
      subst hx
      rw [hc] at ht
      obtain ⟨h', σ', ss, a1, a2, a3, a4, a5, a6⟩ := open_trod D n t [v] (d, p) l ht hl hw σ h hR
      match ss, a4 with
      | [s], a4 =>
        simp only [List.map_cons, List.map_nil, List.cons.injEq, and_true] at a4
        refine ⟨h', σ', .s s, a1, a2, ⟨s, rfl, a3⟩, a4, ?_, ?_⟩
        · simpa [vals, V.val] using a5
        · simpa [known_cons, known_nil] using a6
    unfold Value.okWide at hok
    split at hx <;> rename_i hu <;> simp only [hu, Option.some.injEq] at hok hx
    · obtain ⟨cs, hv, _, hr⟩ := hok; exact agg cs hv hr hx.symm
    · obtain ⟨cs, hv, _, hr⟩ := hok; exact agg cs hv hr hx.symm
    · refine one ?_ hx.symm
      unfold Cell.okWide at hok; rw [hu] at hok
      cases v <;> first | rfl | (simp [Cell.ok, hu] at hok)
    · refine one ?_ hx.symm
      unfold Cell.okWide at hok; rw [hu] at hok
      cases v <;> first | rfl | (simp [Cell.ok, hu] at hok)
    · refine one ?_ hx.symm
      unfold Cell.okWide at hok; rw [hu] at hok
      cases v <;> first | rfl | (simp [Cell.ok, hu] at hok)
    · cases hx
  · cases hx

theorem open_args {r : Reach} {base D : Nat} {sp : Nat → Bool} {held : Bool} {b0 : Nat} : ∀ (ts : List TypeId) (vs : List Value) (ds : List (DataW H)) (p : List MemPlace) (xs : List (Bool × List TY)),
    (∀ (j : Nat) t v, ts[j]? = some t → vs[j]? = some v → Value.okWide P w r base t v) → DataW.TrodAll enc P w b0 sp held ts vs ds p → paramTys P D ts = some xs → (∀ (j : Nat) t d, ts[j]? = some t → ds[j]? = some d → ∀ k, k ∈ d.weights P t → k ≤ reachBytes) →
    ∀ (σ : Sg) (h : List Blk), RO σ h w → ∃ (h' : List Blk) (σ' : Sg) (us : List V), (∀ k, k < h.length → σ' (.g k) = σ (.g k)) ∧ RO σ' (h ++ h') w ∧ hasVs (h ++ h') xs us ∧ us.map (V.tr σ') = vs ∧ us.all (V.val (h ++ h').length 0) = true ∧ us.all V.known = true
  | [], vs, ds, p, xs, _, ht, hx, _ => fun σ h hR => by
    obtain ⟨rfl, rfl, rfl⟩ := trodAll_nil ht
    simp only [paramTys, Option.some.injEq] at hx
    subst hx
    exact ⟨[], σ, [], fun _ _ => rfl, by simpa using hR, trivial, rfl, rfl, rfl⟩
  | t :: ts, vs, ds, p, xs, hok, ht, hx, hw => fun σ h hR => by
    obtain ⟨v, vs', d, ds', p', q, rfl, rfl, rfl, h0, h1⟩ := trodAll_cons ht
    simp only [paramTys] at hx
    split at hx
    · rename_i x l hx1 hx2
      cases hx
      obtain ⟨ha, σa, u, a1, a2, a3, a4, a5, a6⟩ := open_arg (hok 0 t v rfl rfl) h0 hx1 (hw 0 t d rfl rfl) σ h hR
      obtain ⟨hb, σb, us, b1, b2, b3, b4, b5, b6⟩ := open_args ts vs' ds' q l (fun j t v ht hv => hok (j + 1) t v (by simpa using ht) (by simpa using hv)) h1 hx2 (fun j t d ht hd => hw (j + 1) t d (by simpa using ht) (by simpa using hd)) σa (h ++ ha) a2
      refine ⟨ha ++ hb, σb, u :: us, fun k hk => ?_, by rw [← List.append_assoc]; exact b2, ?_, ?_, ?_, ?_⟩
      · rw [b1 k (by simp; omega), a1 k hk]
      · rw [← List.append_assoc]; exact ⟨hasV_mono a3, b3⟩
      · rw [List.map_cons, b4, V.tr_old b1 a5, a4]
      · rw [← List.append_assoc, List.all_cons, Bool.and_eq_true]
        exact ⟨V.val_mono (by simp) (Nat.le_refl _) a5, b5⟩
      · rw [List.all_cons, Bool.and_eq_true]; exact ⟨a6, b6⟩
    · cases hx
end

/-- A law's spec: over whatever arguments it answers true. -/
def Law (S : FSpec) (xs : List (Bool × List TY)) : Prop := ∀ (h : List Blk) (us : List V), hasVs h xs us → clean h.length h = true → S us h fun v _ => v = .s (.b true)

theorem law_calls {P : Program} {H : Type} {enc : TypeId × Value → H} {W : World} {f : FuncId} {S : FSpec} {r : Reach} {base D : Nat} {ts : List TypeId} {args : Array Value} {ds : List (DataW H)} {p : List MemPlace} {xs : List (Bool × List TY)} {sp : Nat → Bool} {held : Bool} {b0 : Nat}
    (hS : Snd P f S) (hL : Law S xs) (hok : ∀ (j : Nat) t v, ts[j]? = some t → args[j]? = some v → Value.okWide P W r base t v) (ht : DataW.TrodAll enc P W b0 sp held ts args.toList ds p) (hx : paramTys P D ts = some xs) (hw : ∀ (j : Nat) t d, ts[j]? = some t → ds[j]? = some d → ∀ k, k ∈ d.weights P t → k ≤ reachBytes) :
    Calls P f args W fun e W' => e = .returned (.bool true) ∧ Still W W' := by
  have hR0 : RO (fun _ => (0, 0)) [] W := ⟨fun k B hB => by simp at hB, fun B hB => by cases hB⟩
  obtain ⟨h, σ, us, _, hR, hV, he, hval, hk⟩ := open_args ts args.toList ds p xs (fun j t v h1 h2 => hok j t v h1 (by simpa using h2)) ht hx hw _ [] hR0
  simp only [List.nil_append] at hR hV hval
  have hcl : clean h.length h = true := by
    simp only [clean, List.all_eq_true]
    exact hR.val
  have hc := hS σ h W us _ hR.sim hval hk (hL h us hV hcl)
  have ha : (us.map (V.tr σ)).toArray = args := by rw [he]
  rw [ha] at hc
  refine hc.mono fun e W' ⟨v, h', σ', e1, _, _, hI, e2⟩ => ?_
  subst e2
  refine ⟨e1, hI.kept.same.os, hI.kept.same.output, fun b hb => hI.kept.keep b hb fun k B hB hst => ?_⟩
  exact absurd hst (hR.ok k B hB).1

/-! ### the row -/
def slicesFull (P : Program) : Bool := (List.range P.types.size).all fun t => match P.underlying t with
  | some (.slice e) => decide (0 < P.cellsOf e)
  | _ => true

theorem trodAll_length {H : Type} {enc : TypeId × Value → H} {P : Program} {w : World} {b0 : Nat} {sp : Nat → Bool} {held : Bool} : ∀ {ts : List TypeId} {vs : List Value} {ds : List (DataW H)} {p : List MemPlace}, DataW.TrodAll enc P w b0 sp held ts vs ds p → ds.length = ts.length
  | [], vs, ds, p, h => by obtain ⟨_, rfl, _⟩ := trodAll_nil h; rfl
  | t :: ts, vs, ds, p, h => by
    obtain ⟨v, vs', d, ds', p', q, rfl, rfl, rfl, _, h1⟩ := trodAll_cons h
    simp [trodAll_length h1]

/-- What is asked of the program and the law's function, by reckoning. -/
structure RowOk (P : Program) (f : FuncId) (fn : Func) (s : ChangeSpec) (xs : List (Bool × List TY)) : Prop where
  own : ownKnob P.godebug = none
  noInit : P.inits.idxOf? f = none
  isf : P.funcs[f]? = some fn
  laid : laidOutB P = true
  rowed : mapsRowed P = true
  full : slicesFull P = true
  params : fn.params.toList.all (fun t => decide (t < P.types.size)) = true
  vars : s.vars = []
  ret : ∃ bt, fn.resultTypes = #[bt] ∧ P.underlying bt = some .bool
  spec : ∀ (H : Type) (ds : List (DataW H)), ds.length = fn.params.toList.length → s.fn H ds = { results := [.lit (.bool true)], args := ds }
  tys : ∃ D, paramTys P D fn.params.toList = some xs

theorem RowOk.calls {P : Program} {f : FuncId} {fn : Func} {s : ChangeSpec} {xs : List (Bool × List TY)} (R : RowOk P f fn s xs) {S : FSpec} (hS : Snd P f S) (hL : Law S xs)
    {H : Type} {enc : TypeId × Value → H} {W : World} {base : Nat} {r : Reach} {args : Array Value} {ds gs : List (DataW H)} {before : List MemPlace} {apart fresh handsOn : Bool}
    (hval : ∀ (j : Nat) t v, fn.params[j]? = some t → args[j]? = some v → Value.okWide P W r base t v) (hW : DataW.Whole enc P fn.params.toList s.vars apart W args.toList ds gs before)
    (hZ : (DataW.weightsEach P (fn.params.toList ++ s.plain.varTypes P) (ds ++ gs)).all (· ≤ reachBytes) = true) :
    Calls P f args W fun e W' => ∃ v, e = .returned v ∧ s.post enc P fn apart fresh handsOn false W args v W' := by
  obtain ⟨D, hx⟩ := R.tys
  obtain ⟨bt, hrt, hbt⟩ := R.ret
  obtain ⟨p, q, hA, hV, hb, hfz, hnd⟩ := id hW
  have hc := law_calls hS hL (fun j t v h1 h2 => hval j t v (by simpa using h1) h2) hA hx (fun j t d ht hd k hk => by
    have h1 : (fn.params.toList ++ s.plain.varTypes P)[j]? = some t := by rw [List.getElem?_append_left (List.getElem?_eq_some_iff.1 ht).1]; exact ht
    have h2 : (ds ++ gs)[j]? = some d := by rw [List.getElem?_append_left (List.getElem?_eq_some_iff.1 hd).1]; exact hd
    have h3 := List.all_eq_true.1 hZ _ (DataW.weights_mem_each h1 h2 k hk)
    simpa using h3)
  refine hc.mono fun e W' ⟨he, hst⟩ => ⟨_, he, ?_⟩
  have hgs : gs = [] := by
    rw [R.vars] at hV; exact (trodVars_none hV).1
  subst hgs
  refine law_post (kids_rows R.laid R.rowed) (fun t e ht hu => ?_) (fun t ht => ?_) R.vars hbt hrt ?_ hW hst
  · have := R.full
    simp only [slicesFull, List.all_eq_true, List.mem_range] at this
    have := this t ht
    rw [hu] at this
    simpa using this
  · have := R.params
    simp only [List.all_eq_true, decide_eq_true_eq] at this
    exact this t ht
  · simp only [List.append_nil]
    exact R.spec H ds (trodAll_length hA)

theorem RowOk.lifted {C : Checked} {f : FuncId} {fn : Func} {s : ChangeSpec} {xs : List (Bool × List TY)} (R : RowOk C.prog f fn s xs) {S : FSpec} (hS : Snd C.prog f S) (hL : Law S xs) {os : Os} (started : os.Started) {H : Type} {enc : TypeId × Value → H} {conds : List PathCond} {apart fresh handsOn : Bool}
    (witness : ∃ (w : World) (tape : Tape) (i : Input), w.os = os ∧ (w.forCall tape i).Shaped C.prog ∧ i.vars = [] ∧ Input.okWide C.prog (w.forCall tape i) .any w.heap.size f i ∧
      s.pre6 enc C.prog fn conds apart (w.forCall tape i).memory i.args ∧ ({} : Assume).holds C.prog (lone (Frame.enter C.prog f i.args .normal) [] (w.forCall tape i))) :
    ReturnsInHanded {} C os f .any (s.pre6 enc C.prog fn conds apart) (s.post enc C.prog fn apart fresh handsOn false) :=
  returnsInHanded_of_change_sized R.own started R.noInit R.isf witness fun _ _ _ _ _ _ hval hW _ hZ _ => R.calls hS hL hval hW hZ

end Go.D

/- The facts of the rows of this seat. -/
namespace Go.Proofs.Yteeeidldknlblaa
namespace Tl
open Go.D
set_option maxRecDepth 100000

theorem own : ownKnob Try.prog.godebug = none := by kernel_rfl
theorem laid : laidOutB Try.prog = true := by kernel_rfl
theorem rowed : mapsRowed Try.prog = true := by kernel_rfl
theorem full : slicesFull Try.prog = true := by kernel_rfl

/-- A slice of elements that are read one by one. -/
theorem hasT_arr {α : Type} {c : α → List S} {h : List Blk} {e : List TY} (hd : ∀ ss, hasTs h e ss → ∃ x, ss = c x) : ∀ (E : List (List S)), (∀ x, x ∈ E → hasTs h e x) → ∃ L : List α, E.flatten = arr c L ∧ L.length = E.length
  | [], _ => ⟨[], rfl, rfl⟩
  | x :: E, H => by
    obtain ⟨y, rfl⟩ := hd x (H x List.mem_cons_self)
    obtain ⟨L, e1, e2⟩ := hasT_arr hd E (fun z hz => H z (List.mem_cons_of_mem _ hz))
    exact ⟨y :: L, by simp [arr, e1], by simp [e2]⟩

end Tl
end Go.Proofs.Yteeeidldknlblaa

/- TlbPlays: what its Go function answers. -/
namespace Go.Proofs.Yteeeidldknlblaa
namespace Tl
open Go.D
set_option linter.all false
set_option maxRecDepth 100000
set_option maxHeartbeats 4000000

/-! ### the lines stay right -/
theorem okT_at {L : List Ln} (g : okT L) {i j : Nat} {x y : Ln} (hij : i ≠ j) (hx : L[i]? = some x) (hy : L[j]? = some y) : one x y := by
  obtain ⟨hi, rfl⟩ := List.getElem?_eq_some_iff.1 hx
  obtain ⟨hj, rfl⟩ := List.getElem?_eq_some_iff.1 hy
  rcases Nat.lt_or_gt_of_ne hij with h | h
  · exact List.pairwise_iff_getElem.1 g.one i j hi hj h
  · intro h1 h2
    have := List.pairwise_iff_getElem.1 g.one j i hj hi h h2 h1
    rw [← this, Bool.eq_iff_iff]
    simp only [Bool.and_eq_true, beq_iff_eq]
    omega

theorem okT_of {L : List Ln} (h8 : L.length = 8) (hok : okL L) (h : ∀ (i j : Nat) (x y : Ln), i ≠ j → L[i]? = some x → L[j]? = some y → one x y) : okT L :=
  ⟨h8, hok, List.pairwise_iff_getElem.2 fun i j hi hj hij => h i j _ _ (by omega) (List.getElem?_eq_getElem hi) (List.getElem?_eq_getElem hj)⟩

theorem okT_z : okT (List.replicate 8 Ln.z) := okT_of rfl (fun l hl => .inl (List.eq_of_mem_replicate hl)) fun i j x y _ hx _ h1 _ => by
  have := List.eq_of_mem_replicate (List.mem_of_getElem? hx)
  subst this; cases h1

theorem okT_set {L : List Ln} (g : okT L) {s : Nat} {l : Ln} (hl : l = Ln.z ∨ l.a ≠ 0) (h : ∀ (i : Nat) (x : Ln), i ≠ s → L[i]? = some x → l.nil = false → x.nil = false → (x.a == l.a && x.p == l.p) = false) : okT (L.set s l) := by
  refine okT_of (by simp [g.len]) (fun x hx => ?_) (fun i j x y hij hx hy => ?_)
  · rcases List.mem_or_eq_of_mem_set hx with h1 | h1
    · exact g.ok x h1
    · subst h1; exact hl
  · rw [List.getElem?_set] at hx hy
    split at hx
    · rename_i e; subst e
      split at hx
      · cases hx
        rw [if_neg hij] at hy
        intro h1 h2
        have := h j y (Ne.symm hij) hy h1 h2
        rw [← this, Bool.eq_iff_iff]
        simp only [Bool.and_eq_true, beq_iff_eq]
        omega
      · cases hx
    · split at hy
      · rename_i e; subst e
        split at hy
        · cases hy
          exact fun h1 h2 => h i x hij hx h2 h1
        · cases hy
      · exact okT_at g hij hx hy

theorem okT_fill {L : List Ln} (g : okT L) {l : Ln} {at_ : Int} (hf : fillB l at_ = true) : okT (L.set (slotF l at_ L) l) := by
  have hm : l.may = true ∧ 0 ≤ at_ ∧ at_ ≤ 7 := by simpa [fillB] using hf
  have ha : l.a ≠ 0 := by
    have := hm.1
    simp only [Ln.may, decide_eq_true_eq] at this
    omega
  refine okT_set g (.inr ha) fun i x hi hx h1 h2 => ?_
  have hmem := List.mem_of_getElem? hx
  rcases atF_spec l.a l.p L 0 with ⟨e, hn⟩ | ⟨j, hj, e, hh⟩
  · have := hn x hmem
    simpa [Ln.hit, h2] using this
  · rw [Nat.zero_add] at e
    have hs : slotF l at_ L = j := by
      have : ¬ ((j : Int) < 0) := by omega
      simp only [slotF, e, this, if_false, Int.toNat_natCast]
    rw [hs] at hi
    have hjn : L[j].nil = false ∧ L[j].a = l.a ∧ L[j].p = l.p := by simpa [Ln.hit] using hh
    have := okT_at g hi hx (List.getElem?_eq_getElem hj) h2 hjn.1
    rw [hjn.2.1, hjn.2.2] at this
    exact this

theorem okT_sieve {L : List Ln} (g : okT L) (q : Ln → Bool) : okT (sieve q L) := by
  refine okT_of (by simp [sieve, g.len]) (fun x hx => ?_) (fun i j x y hij hx hy => ?_)
  · obtain ⟨l, hl, rfl⟩ := List.mem_map.1 hx
    split
    · exact .inl rfl
    · exact g.ok l hl
  · unfold sieve at hx hy
    rw [List.getElem?_map] at hx hy
    obtain ⟨x', hx', rfl⟩ := Option.map_eq_some_iff.1 hx
    obtain ⟨y', hy', rfl⟩ := Option.map_eq_some_iff.1 hy
    intro h1 h2
    split at h1
    · cases h1
    · split at h2
      · cases h2
      · rename_i n1 n2
        rw [if_neg n1, if_neg n2]
        exact okT_at g hij hx' hy' h1 h2

theorem okT_step {L : List Ln} (g : okT L) (w a p x r at_ : Int) : okT (stepF w a p x r at_ L) := by
  unfold stepF
  split
  · split
    · rename_i hf; exact okT_fill g hf
    · exact g
  · split
    · split
      · exact okT_set g (.inl rfl) fun i x _ _ h1 _ => by cases h1
      · exact g
    · split
      · exact okT_sieve g _
      · split
        · exact okT_sieve g _
        · split
          · exact okT_sieve g _
          · exact g

/-! ### the script -/
structure Op where
  w : Int
  a : Int
  p : Int
  x : Int
  r : Int
  e : Int
def Op.c (o : Op) : List S := [.i .i64 o.w, .i .i64 o.a, .i .i64 o.p, .i .i64 o.x, .i .i64 o.r, .i .i64 o.e]
theorem Op.c_len (o : Op) : o.c.length = 6 := rfl
def Op.z : Op := ⟨0, 0, 0, 0, 0, 0⟩
theorem Op.at_ {L : List Op} {i : Nat} (h : i < L.length) : sub (arr Op.c L) (i * 6) 6 = [.i .i64 (nth Op.z L i).w, .i .i64 (nth Op.z L i).a, .i .i64 (nth Op.z L i).p, .i .i64 (nth Op.z L i).x, .i .i64 (nth Op.z L i).r, .i .i64 (nth Op.z L i).e] ∧
    sub (arr Op.c L) (i * 6 + 1) 4 = [.i .i64 (nth Op.z L i).a, .i .i64 (nth Op.z L i).p, .i .i64 (nth Op.z L i).x, .i .i64 (nth Op.z L i).r] ∧
    (arr Op.c L)[i * 6]? = some (.i .i64 (nth Op.z L i).w) ∧ (arr Op.c L)[i * 6 + 1]? = some (.i .i64 (nth Op.z L i).a) ∧ (arr Op.c L)[i * 6 + 2]? = some (.i .i64 (nth Op.z L i).p) ∧
    (arr Op.c L)[i * 6 + 3]? = some (.i .i64 (nth Op.z L i).x) ∧ (arr Op.c L)[i * 6 + 4]? = some (.i .i64 (nth Op.z L i).r) ∧ (arr Op.c L)[i * 6 + 5]? = some (.i .i64 (nth Op.z L i).e) ∧
    i * 6 + 6 ≤ (arr Op.c L).length ∧ i * 6 + 1 + 4 ≤ (arr Op.c L).length := by
  rw [nth_eq h]
  have hl := arr_length Op.c_len L
  have hs := arr_sub Op.c_len h
  refine ⟨hs, ?_, ?_, ?_, ?_, ?_, ?_, ?_, by omega, by omega⟩
  · have : sub (arr Op.c L) (i * 6 + 1) 4 = sub (sub (arr Op.c L) (i * 6) 6) 1 4 := by
      simp only [sub, List.drop_take, List.drop_drop, List.take_take]; rfl
    rw [this, hs]; rfl
  · rw [arr_get0 Op.c_len h (by omega)]; rfl
  all_goals (rw [arr_get Op.c_len h (by omega)]; rfl)

/-- A slice of such, as an argument. -/
def isOps (h : List Blk) (v : V) (L : List Op) : Prop :=
  (v = .s .ns ∧ L = []) ∨ ∃ k st room c, v = .s (.sl (.g k) 0 L.length c) ∧ h[k]? = some ⟨st, arr Op.c L, room⟩ ∧ (L.length ≠ 0 → st ≠ .dead)

def awake0G : List V → List Blk → Res
  | [], h => .ok (.s (.b true)) [] h
  | _, _ => .bad
theorem awake0_snd : Snd Try.prog 13 (FSpec.of awake0G) := awake_snd.cut fun args h K hc hS => by
  unfold FSpec.of awake0G at hS
  split at hS
  · exact cut_app (Nat.le_refl _) hc rfl hS
  · exact hS.elim

end Tl
end Go.Proofs.Yteeeidldknlblaa

/- Package walk, and the document's: Reach. -/
namespace Go.Proofs.Yteeeidldknlblaa
open Go.D
set_option linter.all false
set_option maxRecDepth 100000
set_option maxHeartbeats 4000000

/-- Is an access allowed by rights? -/
def allowB (r : Int) (w : Bool) : Bool := if w then r / 2 % 2 == 1 else r % 2 == 1
theorem rights_cases {r : Int} (h : 0 ≤ r ∧ r ≤ 3) : r = 0 ∨ r = 1 ∨ r = 2 ∨ r = 3 := by omega
theorem and_need {r : Int} (h : 0 ≤ r ∧ r ≤ 3) : (bits .and .i64 r 1 == 0) = !allowB r false ∧ (bits .and .i64 r 2 == 0) = !allowB r true := by
  rcases rights_cases h with rfl | rfl | rfl | rfl <;> exact ⟨rfl, rfl⟩
def allowG : List V → List Blk → Res
  | [.s (.i .i64 r), .s (.b w)], h => .ob (0 ≤ r ∧ r ≤ 3) (.ok (.s (.b (allowB r w))) [] h)
  | _, _ => .bad
theorem allow_snd : Snd Try.prog 47 (FSpec.of allowG) := snd_run (noT_snd _) mixed Try.func47 dc47 100 fun args h K hc hS => by
  unfold allowG at hS
  split at hS
  · rename_i r w
    obtain ⟨hr, hS⟩ := hS
    simp only [spec_ok] at hS
    have q2 : IntKind.i64.wrap (r.tdiv 2) = r / 2 := by rw [Int.tdiv_eq_ediv_of_nonneg hr.1, wrap64] <;> omega
    have t1 : (r / 2).tmod 2 = r / 2 % 2 := Int.tmod_eq_emod_of_nonneg (by omega)
    have t2 : r.tmod 2 = r % 2 := Int.tmod_eq_emod_of_nonneg hr.1
    cases w
    · simp (config := { maxSteps := 10000000 }) only [EV1, EV2, EV3, EV4, EV5, EV6, addT, istep, lenR_sl, lenR_ns, lenR_es, pickR, putD, bin1R, un1R, slcR, bnd, capsOf, fillP, S_plain, V_plain, V.cells, S_known, V_known, C.v, blk, setL, setH, eqS, eq1, cmpS, cmp1, isNil, popTo, killT, setT, leT, V.below, C.below, S_below, R.below, V.val, C.val, S_val, R.val, R.takes, vals, shows, List.any_cons, List.any_nil, unnamed, V.kill, V.names, C.names, S_names, R.names, List.set, List.replicate, ↓q_cond_t, ↓q_cond_f, if_true, if_false, reduceCtorEq, rvals, rvC, result, C_known, V.noL, C.noL, S_noL, R.noL, Option.map, true_and, and_true, ge_iff_le, gt_iff_lt, implies_true, q_ite_t, q_ite_f, beq_iff_eq, bne_iff_ne, q_ne, Nat.reduceAdd, Nat.reducePow, Int.reducePow, Nat.reduceMul, Nat.reduceSub, Nat.reduceLeDiff, Nat.reduceLT, Nat.reduceEqDiff, Int.reduceNeg, Int.reduceLT, Int.reduceLE, Int.reduceEq, Int.reduceNe, Int.reduceAdd, Int.reduceSub, Int.reduceMul, Int.reduceToNat, Int.reduceBEq, Int.reduceBNe, df47, q2, t1, t2]
      exact hS
    · simp (config := { maxSteps := 10000000 }) only [EV1, EV2, EV3, EV4, EV5, EV6, addT, istep, lenR_sl, lenR_ns, lenR_es, pickR, putD, bin1R, un1R, slcR, bnd, capsOf, fillP, S_plain, V_plain, V.cells, S_known, V_known, C.v, blk, setL, setH, eqS, eq1, cmpS, cmp1, isNil, popTo, killT, setT, leT, V.below, C.below, S_below, R.below, V.val, C.val, S_val, R.val, R.takes, vals, shows, List.any_cons, List.any_nil, unnamed, V.kill, V.names, C.names, S_names, R.names, List.set, List.replicate, ↓q_cond_t, ↓q_cond_f, if_true, if_false, reduceCtorEq, rvals, rvC, result, C_known, V.noL, C.noL, S_noL, R.noL, Option.map, true_and, and_true, ge_iff_le, gt_iff_lt, implies_true, q_ite_t, q_ite_f, beq_iff_eq, bne_iff_ne, q_ne, Nat.reduceAdd, Nat.reducePow, Int.reducePow, Nat.reduceMul, Nat.reduceSub, Nat.reduceLeDiff, Nat.reduceLT, Nat.reduceEqDiff, Int.reduceNeg, Int.reduceLT, Int.reduceLE, Int.reduceEq, Int.reduceNe, Int.reduceAdd, Int.reduceSub, Int.reduceMul, Int.reduceToNat, Int.reduceBEq, Int.reduceBNe, df47, q2, t1, t2]
      exact hS
  · exact hS.elim

/-! ### what is remembered are right lines -/
def okM (L : List Tl.Ln) : Prop := ∀ l, l ∈ L → l = Tl.Ln.z ∨ l.may = true
/-- A frame that a walk found. -/
theorem walkF_ok (v : Int) : ∀ (n : Nat) (m : M) (t l : Int), ((walkF v n m t l).e = 0 ∧ 16 ≤ (walkF v n m t l).a ∧ (walkF v n m t l).a ≤ 65520 ∧ (walkF v n m t l).a % 16 = 0 ∧ 0 ≤ (walkF v n m t l).r ∧ (walkF v n m t l).r ≤ 3) ∨ ((walkF v n m t l).e = 50 ∧ (walkF v n m t l).a = 0 ∧ (walkF v n m t l).r = 0)
  | 0, m, t, l => .inr ⟨rfl, rfl, rfl⟩
  | n + 1, m, t, l => by
    rw [walkF]
    split
    · rename_i hs
      split
      · rename_i hl
        have h1 : enB (m.readV (atW t v l)) = true ∧ (enOf (m.readV (atW t v l))).v = true ∧ (enOf (m.readV (atW t v l))).l = true := by
          simp only [stepB, Bool.and_eq_true, hl] at hs
          simp only [hl]
          exact ⟨hs.2.1, hs.2.2.1, by simpa using hs.2.2.2⟩
        have h2 : (enOf (m.readV (atW t v l))).may = true := by
          have := h1.1
          simp only [enB, Bool.and_eq_true] at this
          exact this.1
        simp only [En.may, h1.2.1, h1.2.2, decide_eq_true_eq] at h2
        exact .inl ⟨rfl, h2.1, h2.2.1, h2.2.2.1, h2.2.2.2.1, h2.2.2.2.2⟩
      · exact walkF_ok v n _ _ _
    · exact .inr ⟨rfl, rfl, rfl⟩

structure RR where
  a : Int
  e : Int
  m : M
  L : List Tl.Ln
def RR.v (x : RR) : V := .tup [.s (.i .i64 x.a), .s (.i .i64 x.e)]
def reachEnd (m : M) (L : List Tl.Ln) (a r v : Int) (w : Bool) : RR := if allowB r w then ⟨a + v % 16, 0, m, L⟩ else ⟨0, 50, m, L⟩
def askB (root asid v at_ : Int) : Bool := virtB v && (decide (1 ≤ asid ∧ asid ≤ 63) && (virtB root && decide (0 ≤ at_ ∧ at_ ≤ 7)))
def reachF (m : M) (L : List Tl.Ln) (root asid v : Int) (w : Bool) (at_ : Int) : RR :=
  if askB root asid v at_ then
    (if Tl.atF asid (v / 16) L 0 < 0 then
      (if (walkF v 4 m root 0).e = 0 then reachEnd (walkF v 4 m root 0).m (L.set (Tl.slotF ⟨asid, v / 16, (walkF v 4 m root 0).a, (walkF v 4 m root 0).r⟩ at_ L) ⟨asid, v / 16, (walkF v 4 m root 0).a, (walkF v 4 m root 0).r⟩) (walkF v 4 m root 0).a (walkF v 4 m root 0).r v w
      else ⟨0, (walkF v 4 m root 0).e, (walkF v 4 m root 0).m, L⟩)
    else reachEnd m L (nth Tl.Ln.z L (Tl.atF asid (v / 16) L 0).toNat).x (nth Tl.Ln.z L (Tl.atF asid (v / 16) L 0).toNat).r v w)
  else ⟨0, 1, m, L⟩
noncomputable def reachG : List V → List Blk → Res
  | [.s (.p (.g a) 0), .s (.p (.g k) 0), .s (.i .i64 root), .agg [.i .i64 asid, .i .i64 v, .b w], .s (.i .i64 at_)], h => match memOf h a, h[k]? with
    | some (b, m), some B => .ob (Tl.isTlb B ∧ Tl.okT (Tl.dec B.cells) ∧ okM (Tl.dec B.cells) ∧ k ≠ a ∧ k ≠ b) (.ok (reachF m (Tl.dec B.cells) root asid v w at_).v [] ((setM h a b (reachF m (Tl.dec B.cells) root asid v w at_).m).set k (Tl.tlbB (reachF m (Tl.dec B.cells) root asid v w at_).L)))
    | _, _ => .bad
  | _, _ => .bad
theorem reachG_spec {args : List V} {h : List Blk} {K : V → List Blk → Prop} (hS : (reachG args h).spec K) : ∃ a b k m root asid v w at_ L, args = [.s (.p (.g a) 0), .s (.p (.g k) 0), .s (.i .i64 root), .agg [.i .i64 asid, .i .i64 v, .b w], .s (.i .i64 at_)] ∧ IsMem h a b m ∧ h[k]? = some (Tl.tlbB L) ∧ L.length = 8 ∧ Tl.okT L ∧ okM L ∧ k ≠ a ∧ k ≠ b ∧
    K (reachF m L root asid v w at_).v ((setM h a b (reachF m L root asid v w at_).m).set k (Tl.tlbB (reachF m L root asid v w at_).L)) := by
  unfold reachG at hS
  split at hS
  · split at hS
    · rename_i b m B e1 e2
      obtain ⟨⟨h1, h2, h3, h4, h5⟩, hS⟩ := hS
      refine ⟨_, b, _, m, _, _, _, _, _, Tl.dec B.cells, rfl, memOf_some e1, ?_, h1.2, h2, h3, h4, h5, hS⟩
      rw [e2, ← h1.1]
    · exact hS.elim
  · exact hS.elim
/-- A found page's line. -/
theorem found_ok {L : List Tl.Ln} (h : okM L) {a p : Int} (hn : ¬ Tl.atF a p L 0 < 0) : 16 ≤ (nth Tl.Ln.z L (Tl.atF a p L 0).toNat).x ∧ (nth Tl.Ln.z L (Tl.atF a p L 0).toNat).x ≤ 65520 ∧ 0 ≤ (nth Tl.Ln.z L (Tl.atF a p L 0).toNat).r ∧ (nth Tl.Ln.z L (Tl.atF a p L 0).toNat).r ≤ 3 := by
  rcases Tl.atF_spec a p L 0 with ⟨e, _⟩ | ⟨j, hj, e, hh⟩
  · rw [e] at hn; exact absurd (by decide) hn
  · have e2 : (Tl.atF a p L 0).toNat = j := by rw [e]; omega
    rw [e2, nth_eq hj]
    rcases h _ (List.getElem_mem hj) with h0 | h0
    · rw [h0] at hh
      simp [Tl.Ln.hit, Tl.Ln.nil, Tl.Ln.z] at hh
    · simp only [Tl.Ln.may, Bool.and_eq_true, decide_eq_true_eq, beq_iff_eq] at h0
      omega
end Go.Proofs.Yteeeidldknlblaa

/- Package walk, and the document's: Reach: the walks. -/
namespace Go.Proofs.Yteeeidldknlblaa
open Go.D
set_option linter.all false
set_option maxRecDepth 100000
set_option maxHeartbeats 8000000

noncomputable def TwR : Tab := addT 70 wInG (addT 69 virtG (addT 52 Tl.findG (addT 43 walkG (addT 15 Tl.fillG (addT 71 virtG (addT 73 Tl.rFindG (addT 45 walkG (addT 74 Tl.rFillG (addT 47 allowG (noT))))))))))
theorem TwR_snd : TwR.Snd Try.prog := addT_snd ok70 wIn_snd (addT_snd ok69 wVirt_snd (addT_snd ok52 Tl.find_snd (addT_snd ok43 wWalk_snd (addT_snd ok15 Tl.fill_snd (addT_snd ok71 rVirt_snd (addT_snd ok73 Tl.rFind_snd (addT_snd ok45 rWalk_snd (addT_snd ok74 Tl.rFill_snd (addT_snd ok47 allow_snd ((noT_snd _)))))))))))
theorem reach_bad {m : M} {L : List Tl.Ln} {root asid v at_ : Int} {w : Bool} (h : askB root asid v at_ = false) : reachF m L root asid v w at_ = ⟨0, 1, m, L⟩ := by
  unfold reachF; rw [h]; rfl
theorem reach_found {m : M} {L : List Tl.Ln} {root asid v at_ : Int} {w : Bool} (h : askB root asid v at_ = true) (hf : ¬ Tl.atF asid (v / 16) L 0 < 0) : reachF m L root asid v w at_ = reachEnd m L (nth Tl.Ln.z L (Tl.atF asid (v / 16) L 0).toNat).x (nth Tl.Ln.z L (Tl.atF asid (v / 16) L 0).toNat).r v w := by
  unfold reachF; rw [h, if_pos rfl, if_neg hf]
theorem reach_fault {m : M} {L : List Tl.Ln} {root asid v at_ : Int} {w : Bool} (h : askB root asid v at_ = true) (hf : Tl.atF asid (v / 16) L 0 < 0) (he : (walkF v 4 m root 0).e ≠ 0) : reachF m L root asid v w at_ = ⟨0, (walkF v 4 m root 0).e, (walkF v 4 m root 0).m, L⟩ := by
  unfold reachF; rw [h, if_pos rfl, if_pos hf, if_neg he]
theorem reach_walk {m : M} {L : List Tl.Ln} {root asid v at_ : Int} {w : Bool} (h : askB root asid v at_ = true) (hf : Tl.atF asid (v / 16) L 0 < 0) (he : (walkF v 4 m root 0).e = 0) : reachF m L root asid v w at_ = reachEnd (walkF v 4 m root 0).m (L.set (Tl.slotF ⟨asid, v / 16, (walkF v 4 m root 0).a, (walkF v 4 m root 0).r⟩ at_ L) ⟨asid, v / 16, (walkF v 4 m root 0).a, (walkF v 4 m root 0).r⟩) (walkF v 4 m root 0).a (walkF v 4 m root 0).r v w := by
  unfold reachF; rw [h, if_pos rfl, if_pos hf, if_pos he]
theorem askB_iff {root asid v at_ : Int} : askB root asid v at_ = true ↔ virtB v = true ∧ (1 ≤ asid ∧ asid ≤ 63) ∧ virtB root = true ∧ 0 ≤ at_ ∧ at_ ≤ 7 := by simp [askB]
theorem askB_not {root asid v at_ : Int} (h : ¬ (virtB v = true ∧ (1 ≤ asid ∧ asid ≤ 63) ∧ virtB root = true ∧ 0 ≤ at_ ∧ at_ ≤ 7)) : askB root asid v at_ = false := by
  rw [Bool.eq_false_iff]; exact fun e => h (askB_iff.1 e)

theorem wReach_snd : Snd Try.prog 46 (FSpec.of reachG) := snd_run TwR_snd mixed Try.func46 dc46 400 fun args h K hc hS => by
  obtain ⟨a, b, k, m, root, asid, v, w, at_, L, rfl, H, hk, h8, hT, hM, hka, hkb, hR⟩ := reachG_spec hS
  clear hS
  have hok := hT.ok
  have hself : (setM h a b m).set k (Tl.tlbB L) = h := by rw [setM_self H, set_self hk]
  have bad : askB root asid v at_ = false → K (RR.v ⟨0, 1, m, L⟩) h := fun e => by
    rw [reach_bad e, hself] at hR; exact hR
  simp only [RR.v] at bad
  cases c1 : virtB v with
  | false =>
    have bad := bad (askB_not fun e => by rw [c1] at e; cases e.1)
    simp (config := { maxSteps := 10000000 }) only [EV1, EV2, EV3, EV4, EV5, EV6, addT, istep, lenR_sl, lenR_ns, lenR_es, pickR, putD, bin1R, un1R, slcR, bnd, capsOf, fillP, S_plain, V_plain, V.cells, S_known, V_known, C.v, blk, setL, setH, eqS, eq1, cmpS, cmp1, isNil, popTo, killT, setT, leT, V.below, C.below, S_below, R.below, V.val, C.val, S_val, R.val, R.takes, vals, shows, List.any_cons, List.any_nil, unnamed, V.kill, V.names, C.names, S_names, R.names, List.set, List.replicate, ↓q_cond_t, ↓q_cond_f, if_true, if_false, reduceCtorEq, rvals, rvC, result, C_known, V.noL, C.noL, S_noL, R.noL, Option.map, true_and, and_true, ge_iff_le, gt_iff_lt, implies_true, q_ite_t, q_ite_f, beq_iff_eq, bne_iff_ne, q_ne, Nat.reduceAdd, Nat.reducePow, Int.reducePow, Nat.reduceMul, Nat.reduceSub, Nat.reduceLeDiff, Nat.reduceLT, Nat.reduceEqDiff, Int.reduceNeg, Int.reduceLT, Int.reduceLE, Int.reduceEq, Int.reduceNe, Int.reduceAdd, Int.reduceSub, Int.reduceMul, Int.reduceToNat, Int.reduceBEq, Int.reduceBNe, df46, TwR, virtG, wInG, tmod1, c1]
    exact bad
  | true =>
  by_cases c2 : 1 ≤ asid
  case neg =>
    have bad := bad (askB_not fun e => c2 e.2.1.1)
    have c2' : asid < 1 := by omega
    simp (config := { maxSteps := 10000000 }) only [EV1, EV2, EV3, EV4, EV5, EV6, addT, istep, lenR_sl, lenR_ns, lenR_es, pickR, putD, bin1R, un1R, slcR, bnd, capsOf, fillP, S_plain, V_plain, V.cells, S_known, V_known, C.v, blk, setL, setH, eqS, eq1, cmpS, cmp1, isNil, popTo, killT, setT, leT, V.below, C.below, S_below, R.below, V.val, C.val, S_val, R.val, R.takes, vals, shows, List.any_cons, List.any_nil, unnamed, V.kill, V.names, C.names, S_names, R.names, List.set, List.replicate, ↓q_cond_t, ↓q_cond_f, if_true, if_false, reduceCtorEq, rvals, rvC, result, C_known, V.noL, C.noL, S_noL, R.noL, Option.map, true_and, and_true, ge_iff_le, gt_iff_lt, implies_true, q_ite_t, q_ite_f, beq_iff_eq, bne_iff_ne, q_ne, Nat.reduceAdd, Nat.reducePow, Int.reducePow, Nat.reduceMul, Nat.reduceSub, Nat.reduceLeDiff, Nat.reduceLT, Nat.reduceEqDiff, Int.reduceNeg, Int.reduceLT, Int.reduceLE, Int.reduceEq, Int.reduceNe, Int.reduceAdd, Int.reduceSub, Int.reduceMul, Int.reduceToNat, Int.reduceBEq, Int.reduceBNe, df46, TwR, virtG, wInG, tmod1, c1, c2, c2']
    exact bad
  by_cases c3 : asid ≤ 63
  case neg =>
    have bad := bad (askB_not fun e => c3 e.2.1.2)
    have c2' : ¬ asid < 1 := by omega
    have c3' : 63 < asid := by omega
    simp (config := { maxSteps := 10000000 }) only [EV1, EV2, EV3, EV4, EV5, EV6, addT, istep, lenR_sl, lenR_ns, lenR_es, pickR, putD, bin1R, un1R, slcR, bnd, capsOf, fillP, S_plain, V_plain, V.cells, S_known, V_known, C.v, blk, setL, setH, eqS, eq1, cmpS, cmp1, isNil, popTo, killT, setT, leT, V.below, C.below, S_below, R.below, V.val, C.val, S_val, R.val, R.takes, vals, shows, List.any_cons, List.any_nil, unnamed, V.kill, V.names, C.names, S_names, R.names, List.set, List.replicate, ↓q_cond_t, ↓q_cond_f, if_true, if_false, reduceCtorEq, rvals, rvC, result, C_known, V.noL, C.noL, S_noL, R.noL, Option.map, true_and, and_true, ge_iff_le, gt_iff_lt, implies_true, q_ite_t, q_ite_f, beq_iff_eq, bne_iff_ne, q_ne, Nat.reduceAdd, Nat.reducePow, Int.reducePow, Nat.reduceMul, Nat.reduceSub, Nat.reduceLeDiff, Nat.reduceLT, Nat.reduceEqDiff, Int.reduceNeg, Int.reduceLT, Int.reduceLE, Int.reduceEq, Int.reduceNe, Int.reduceAdd, Int.reduceSub, Int.reduceMul, Int.reduceToNat, Int.reduceBEq, Int.reduceBNe, df46, TwR, virtG, wInG, tmod1, c1, c2, c2', c3, c3']
    exact bad
  have c2' : ¬ asid < 1 := by omega
  have c3' : ¬ 63 < asid := by omega
  by_cases c4 : 0 ≤ root
  case neg =>
    have bad := bad (askB_not fun e => c4 (by have := e.2.2.1; simp [virtB] at this; exact this.1))
    have c4' : root < 0 := by omega
    simp (config := { maxSteps := 10000000 }) only [EV1, EV2, EV3, EV4, EV5, EV6, addT, istep, lenR_sl, lenR_ns, lenR_es, pickR, putD, bin1R, un1R, slcR, bnd, capsOf, fillP, S_plain, V_plain, V.cells, S_known, V_known, C.v, blk, setL, setH, eqS, eq1, cmpS, cmp1, isNil, popTo, killT, setT, leT, V.below, C.below, S_below, R.below, V.val, C.val, S_val, R.val, R.takes, vals, shows, List.any_cons, List.any_nil, unnamed, V.kill, V.names, C.names, S_names, R.names, List.set, List.replicate, ↓q_cond_t, ↓q_cond_f, if_true, if_false, reduceCtorEq, rvals, rvC, result, C_known, V.noL, C.noL, S_noL, R.noL, Option.map, true_and, and_true, ge_iff_le, gt_iff_lt, implies_true, q_ite_t, q_ite_f, beq_iff_eq, bne_iff_ne, q_ne, Nat.reduceAdd, Nat.reducePow, Int.reducePow, Nat.reduceMul, Nat.reduceSub, Nat.reduceLeDiff, Nat.reduceLT, Nat.reduceEqDiff, Int.reduceNeg, Int.reduceLT, Int.reduceLE, Int.reduceEq, Int.reduceNe, Int.reduceAdd, Int.reduceSub, Int.reduceMul, Int.reduceToNat, Int.reduceBEq, Int.reduceBNe, df46, TwR, virtG, wInG, tmod1, c1, c2, c2', c3, c3', c4, c4']
    exact bad
  have c4' : ¬ root < 0 := by omega
  by_cases c5 : root ≤ 65535
  case neg =>
    have bad := bad (askB_not fun e => c5 (by have := e.2.2.1; simp [virtB] at this; exact this.2))
    have c5' : 65535 < root := by omega
    simp (config := { maxSteps := 10000000 }) only [EV1, EV2, EV3, EV4, EV5, EV6, addT, istep, lenR_sl, lenR_ns, lenR_es, pickR, putD, bin1R, un1R, slcR, bnd, capsOf, fillP, S_plain, V_plain, V.cells, S_known, V_known, C.v, blk, setL, setH, eqS, eq1, cmpS, cmp1, isNil, popTo, killT, setT, leT, V.below, C.below, S_below, R.below, V.val, C.val, S_val, R.val, R.takes, vals, shows, List.any_cons, List.any_nil, unnamed, V.kill, V.names, C.names, S_names, R.names, List.set, List.replicate, ↓q_cond_t, ↓q_cond_f, if_true, if_false, reduceCtorEq, rvals, rvC, result, C_known, V.noL, C.noL, S_noL, R.noL, Option.map, true_and, and_true, ge_iff_le, gt_iff_lt, implies_true, q_ite_t, q_ite_f, beq_iff_eq, bne_iff_ne, q_ne, Nat.reduceAdd, Nat.reducePow, Int.reducePow, Nat.reduceMul, Nat.reduceSub, Nat.reduceLeDiff, Nat.reduceLT, Nat.reduceEqDiff, Int.reduceNeg, Int.reduceLT, Int.reduceLE, Int.reduceEq, Int.reduceNe, Int.reduceAdd, Int.reduceSub, Int.reduceMul, Int.reduceToNat, Int.reduceBEq, Int.reduceBNe, df46, TwR, virtG, wInG, tmod1, c1, c2, c2', c3, c3', c4, c4', c5, c5']
    exact bad
  have c5' : ¬ 65535 < root := by omega
  by_cases c6 : 0 ≤ at_
  case neg =>
    have bad := bad (askB_not fun e => c6 e.2.2.2.1)
    have c6' : at_ < 0 := by omega
    simp (config := { maxSteps := 10000000 }) only [EV1, EV2, EV3, EV4, EV5, EV6, addT, istep, lenR_sl, lenR_ns, lenR_es, pickR, putD, bin1R, un1R, slcR, bnd, capsOf, fillP, S_plain, V_plain, V.cells, S_known, V_known, C.v, blk, setL, setH, eqS, eq1, cmpS, cmp1, isNil, popTo, killT, setT, leT, V.below, C.below, S_below, R.below, V.val, C.val, S_val, R.val, R.takes, vals, shows, List.any_cons, List.any_nil, unnamed, V.kill, V.names, C.names, S_names, R.names, List.set, List.replicate, ↓q_cond_t, ↓q_cond_f, if_true, if_false, reduceCtorEq, rvals, rvC, result, C_known, V.noL, C.noL, S_noL, R.noL, Option.map, true_and, and_true, ge_iff_le, gt_iff_lt, implies_true, q_ite_t, q_ite_f, beq_iff_eq, bne_iff_ne, q_ne, Nat.reduceAdd, Nat.reducePow, Int.reducePow, Nat.reduceMul, Nat.reduceSub, Nat.reduceLeDiff, Nat.reduceLT, Nat.reduceEqDiff, Int.reduceNeg, Int.reduceLT, Int.reduceLE, Int.reduceEq, Int.reduceNe, Int.reduceAdd, Int.reduceSub, Int.reduceMul, Int.reduceToNat, Int.reduceBEq, Int.reduceBNe, df46, TwR, virtG, wInG, tmod1, c1, c2, c2', c3, c3', c4, c4', c5, c5', c6, c6']
    exact bad
  have c6' : ¬ at_ < 0 := by omega
  by_cases c7 : at_ ≤ 7
  case neg =>
    have bad := bad (askB_not fun e => c7 e.2.2.2.2)
    have c7' : 7 < at_ := by omega
    simp (config := { maxSteps := 10000000 }) only [EV1, EV2, EV3, EV4, EV5, EV6, addT, istep, lenR_sl, lenR_ns, lenR_es, pickR, putD, bin1R, un1R, slcR, bnd, capsOf, fillP, S_plain, V_plain, V.cells, S_known, V_known, C.v, blk, setL, setH, eqS, eq1, cmpS, cmp1, isNil, popTo, killT, setT, leT, V.below, C.below, S_below, R.below, V.val, C.val, S_val, R.val, R.takes, vals, shows, List.any_cons, List.any_nil, unnamed, V.kill, V.names, C.names, S_names, R.names, List.set, List.replicate, ↓q_cond_t, ↓q_cond_f, if_true, if_false, reduceCtorEq, rvals, rvC, result, C_known, V.noL, C.noL, S_noL, R.noL, Option.map, true_and, and_true, ge_iff_le, gt_iff_lt, implies_true, q_ite_t, q_ite_f, beq_iff_eq, bne_iff_ne, q_ne, Nat.reduceAdd, Nat.reducePow, Int.reducePow, Nat.reduceMul, Nat.reduceSub, Nat.reduceLeDiff, Nat.reduceLT, Nat.reduceEqDiff, Int.reduceNeg, Int.reduceLT, Int.reduceLE, Int.reduceEq, Int.reduceNe, Int.reduceAdd, Int.reduceSub, Int.reduceMul, Int.reduceToNat, Int.reduceBEq, Int.reduceBNe, df46, TwR, virtG, wInG, tmod1, c1, c2, c2', c3, c3', c4, c4', c5, c5', c6, c6', c7, c7']
    exact bad
  have c7' : ¬ 7 < at_ := by omega
  clear bad
  have cv : virtB root = true := by simp [virtB]; omega
  have cr : (decide (0 ≤ root) && decide (root ≤ 65535)) = true := by rw [virt_and, cv]
  have ha : askB root asid v at_ = true := askB_iff.2 ⟨c1, ⟨c2, c3⟩, cv, c6, c7⟩
  have hv : 0 ≤ v ∧ v ≤ 65535 := by simpa [virtB] using c1
  have p1 : IntKind.i64.wrap (v.tdiv 16) = v / 16 := by rw [Int.tdiv_eq_ediv_of_nonneg hv.1, wrap64] <;> omega
  have p2 : v.tmod 16 = v % 16 := Int.tmod_eq_emod_of_nonneg hv.1
  by_cases hf : Tl.atF asid (v / 16) L 0 < 0
  · rcases walkF_ok v 4 m root 0 with ⟨he, w1, w2, w3, w4, w5⟩ | ⟨he, w1, w2⟩
    · rw [reach_walk ha hf he] at hR
      obtain ⟨x, hx⟩ : ∃ x, walkF v 4 m root 0 = x := ⟨_, rfl⟩
      rw [hx] at hR he w1 w2 w3 w4 w5
      have hks : (setM h a b x.m)[k]? = some (Tl.tlbB L) := by
        simp only [setM]
        rw [set_miss (Ne.symm hkb), set_miss (Ne.symm hka)]; exact hk
      have hfb : Tl.fillB ⟨asid, v / 16, x.a, x.r⟩ at_ = true := by
        simp only [Tl.fillB, Tl.Ln.may, Bool.and_eq_true, decide_eq_true_eq]
        omega
      have hn := and_need (r := x.r) ⟨w4, w5⟩
      have hw : IntKind.i64.wrap (x.a + v % 16) = x.a + v % 16 := by rw [wrap64] <;> omega
      cases w with
      | false =>
        cases hq : allowB x.r false with
        | false =>
          have hn1 := hn.1
          rw [hq] at hn1
          simp only [reachEnd, hq] at hR
          simp (config := { maxSteps := 10000000 }) only [EV1, EV2, EV3, EV4, EV5, EV6, addT, istep, lenR_sl, lenR_ns, lenR_es, pickR, putD, bin1R, un1R, slcR, bnd, capsOf, fillP, S_plain, V_plain, V.cells, S_known, V_known, C.v, blk, setL, setH, eqS, eq1, cmpS, cmp1, isNil, popTo, killT, setT, leT, V.below, C.below, S_below, R.below, V.val, C.val, S_val, R.val, R.takes, vals, shows, List.any_cons, List.any_nil, unnamed, V.kill, V.names, C.names, S_names, R.names, List.set, List.replicate, ↓q_cond_t, ↓q_cond_f, if_true, if_false, reduceCtorEq, rvals, rvC, result, C_known, V.noL, C.noL, S_noL, R.noL, Option.map, true_and, and_true, ge_iff_le, gt_iff_lt, implies_true, q_ite_t, q_ite_f, beq_iff_eq, bne_iff_ne, q_ne, Nat.reduceAdd, Nat.reducePow, Int.reducePow, Nat.reduceMul, Nat.reduceSub, Nat.reduceLeDiff, Nat.reduceLT, Nat.reduceEqDiff, Int.reduceNeg, Int.reduceLT, Int.reduceLE, Int.reduceEq, Int.reduceNe, Int.reduceAdd, Int.reduceSub, Int.reduceMul, Int.reduceToNat, Int.reduceBEq, Int.reduceBNe, df46, TwR, virtG, wInG, tmod1, c1, c2, c2', c3, c3', c4, c4', c5, c5', c6, c6', c7, c7', cr, cv, p1, p2, hk, Tl.findG, Tl.rFindG, Tl.isTlb_tlbB, h8, hok, hT, Tl.tlbB_cells, Tl.dec_arr, hf, walkG, memF_eq H, walkM, hx, he, WR.v, Tl.fillG, Tl.rFillG, hks, hfb, hn1, hw, allowG, w4, w5, hq, put, fillP]
          exact hR
        | true =>
          have hn1 := hn.1
          rw [hq] at hn1
          simp only [reachEnd, hq] at hR
          simp (config := { maxSteps := 10000000 }) only [EV1, EV2, EV3, EV4, EV5, EV6, addT, istep, lenR_sl, lenR_ns, lenR_es, pickR, putD, bin1R, un1R, slcR, bnd, capsOf, fillP, S_plain, V_plain, V.cells, S_known, V_known, C.v, blk, setL, setH, eqS, eq1, cmpS, cmp1, isNil, popTo, killT, setT, leT, V.below, C.below, S_below, R.below, V.val, C.val, S_val, R.val, R.takes, vals, shows, List.any_cons, List.any_nil, unnamed, V.kill, V.names, C.names, S_names, R.names, List.set, List.replicate, ↓q_cond_t, ↓q_cond_f, if_true, if_false, reduceCtorEq, rvals, rvC, result, C_known, V.noL, C.noL, S_noL, R.noL, Option.map, true_and, and_true, ge_iff_le, gt_iff_lt, implies_true, q_ite_t, q_ite_f, beq_iff_eq, bne_iff_ne, q_ne, Nat.reduceAdd, Nat.reducePow, Int.reducePow, Nat.reduceMul, Nat.reduceSub, Nat.reduceLeDiff, Nat.reduceLT, Nat.reduceEqDiff, Int.reduceNeg, Int.reduceLT, Int.reduceLE, Int.reduceEq, Int.reduceNe, Int.reduceAdd, Int.reduceSub, Int.reduceMul, Int.reduceToNat, Int.reduceBEq, Int.reduceBNe, df46, TwR, virtG, wInG, tmod1, c1, c2, c2', c3, c3', c4, c4', c5, c5', c6, c6', c7, c7', cr, cv, p1, p2, hk, Tl.findG, Tl.rFindG, Tl.isTlb_tlbB, h8, hok, hT, Tl.tlbB_cells, Tl.dec_arr, hf, walkG, memF_eq H, walkM, hx, he, WR.v, Tl.fillG, Tl.rFillG, hks, hfb, hn1, hw, allowG, w4, w5, hq, put, fillP]
          exact hR
      | true =>
        cases hq : allowB x.r true with
        | false =>
          have hn1 := hn.2
          rw [hq] at hn1
          simp only [reachEnd, hq] at hR
          simp (config := { maxSteps := 10000000 }) only [EV1, EV2, EV3, EV4, EV5, EV6, addT, istep, lenR_sl, lenR_ns, lenR_es, pickR, putD, bin1R, un1R, slcR, bnd, capsOf, fillP, S_plain, V_plain, V.cells, S_known, V_known, C.v, blk, setL, setH, eqS, eq1, cmpS, cmp1, isNil, popTo, killT, setT, leT, V.below, C.below, S_below, R.below, V.val, C.val, S_val, R.val, R.takes, vals, shows, List.any_cons, List.any_nil, unnamed, V.kill, V.names, C.names, S_names, R.names, List.set, List.replicate, ↓q_cond_t, ↓q_cond_f, if_true, if_false, reduceCtorEq, rvals, rvC, result, C_known, V.noL, C.noL, S_noL, R.noL, Option.map, true_and, and_true, ge_iff_le, gt_iff_lt, implies_true, q_ite_t, q_ite_f, beq_iff_eq, bne_iff_ne, q_ne, Nat.reduceAdd, Nat.reducePow, Int.reducePow, Nat.reduceMul, Nat.reduceSub, Nat.reduceLeDiff, Nat.reduceLT, Nat.reduceEqDiff, Int.reduceNeg, Int.reduceLT, Int.reduceLE, Int.reduceEq, Int.reduceNe, Int.reduceAdd, Int.reduceSub, Int.reduceMul, Int.reduceToNat, Int.reduceBEq, Int.reduceBNe, df46, TwR, virtG, wInG, tmod1, c1, c2, c2', c3, c3', c4, c4', c5, c5', c6, c6', c7, c7', cr, cv, p1, p2, hk, Tl.findG, Tl.rFindG, Tl.isTlb_tlbB, h8, hok, hT, Tl.tlbB_cells, Tl.dec_arr, hf, walkG, memF_eq H, walkM, hx, he, WR.v, Tl.fillG, Tl.rFillG, hks, hfb, hn1, hw, allowG, w4, w5, hq, put, fillP]
          exact hR
        | true =>
          have hn1 := hn.2
          rw [hq] at hn1
          simp only [reachEnd, hq] at hR
          simp (config := { maxSteps := 10000000 }) only [EV1, EV2, EV3, EV4, EV5, EV6, addT, istep, lenR_sl, lenR_ns, lenR_es, pickR, putD, bin1R, un1R, slcR, bnd, capsOf, fillP, S_plain, V_plain, V.cells, S_known, V_known, C.v, blk, setL, setH, eqS, eq1, cmpS, cmp1, isNil, popTo, killT, setT, leT, V.below, C.below, S_below, R.below, V.val, C.val, S_val, R.val, R.takes, vals, shows, List.any_cons, List.any_nil, unnamed, V.kill, V.names, C.names, S_names, R.names, List.set, List.replicate, ↓q_cond_t, ↓q_cond_f, if_true, if_false, reduceCtorEq, rvals, rvC, result, C_known, V.noL, C.noL, S_noL, R.noL, Option.map, true_and, and_true, ge_iff_le, gt_iff_lt, implies_true, q_ite_t, q_ite_f, beq_iff_eq, bne_iff_ne, q_ne, Nat.reduceAdd, Nat.reducePow, Int.reducePow, Nat.reduceMul, Nat.reduceSub, Nat.reduceLeDiff, Nat.reduceLT, Nat.reduceEqDiff, Int.reduceNeg, Int.reduceLT, Int.reduceLE, Int.reduceEq, Int.reduceNe, Int.reduceAdd, Int.reduceSub, Int.reduceMul, Int.reduceToNat, Int.reduceBEq, Int.reduceBNe, df46, TwR, virtG, wInG, tmod1, c1, c2, c2', c3, c3', c4, c4', c5, c5', c6, c6', c7, c7', cr, cv, p1, p2, hk, Tl.findG, Tl.rFindG, Tl.isTlb_tlbB, h8, hok, hT, Tl.tlbB_cells, Tl.dec_arr, hf, walkG, memF_eq H, walkM, hx, he, WR.v, Tl.fillG, Tl.rFillG, hks, hfb, hn1, hw, allowG, w4, w5, hq, put, fillP]
          exact hR
    · rw [reach_fault ha hf (by rw [he]; decide)] at hR
      obtain ⟨x, hx⟩ : ∃ x, walkF v 4 m root 0 = x := ⟨_, rfl⟩
      rw [hx] at hR he
      rw [he] at hR
      have hks : (setM h a b x.m)[k]? = some (Tl.tlbB L) := by
        simp only [setM]
        rw [set_miss (Ne.symm hkb), set_miss (Ne.symm hka)]; exact hk
      simp only [set_self hks, RR.v] at hR
      simp (config := { maxSteps := 10000000 }) only [EV1, EV2, EV3, EV4, EV5, EV6, addT, istep, lenR_sl, lenR_ns, lenR_es, pickR, putD, bin1R, un1R, slcR, bnd, capsOf, fillP, S_plain, V_plain, V.cells, S_known, V_known, C.v, blk, setL, setH, eqS, eq1, cmpS, cmp1, isNil, popTo, killT, setT, leT, V.below, C.below, S_below, R.below, V.val, C.val, S_val, R.val, R.takes, vals, shows, List.any_cons, List.any_nil, unnamed, V.kill, V.names, C.names, S_names, R.names, List.set, List.replicate, ↓q_cond_t, ↓q_cond_f, if_true, if_false, reduceCtorEq, rvals, rvC, result, C_known, V.noL, C.noL, S_noL, R.noL, Option.map, true_and, and_true, ge_iff_le, gt_iff_lt, implies_true, q_ite_t, q_ite_f, beq_iff_eq, bne_iff_ne, q_ne, Nat.reduceAdd, Nat.reducePow, Int.reducePow, Nat.reduceMul, Nat.reduceSub, Nat.reduceLeDiff, Nat.reduceLT, Nat.reduceEqDiff, Int.reduceNeg, Int.reduceLT, Int.reduceLE, Int.reduceEq, Int.reduceNe, Int.reduceAdd, Int.reduceSub, Int.reduceMul, Int.reduceToNat, Int.reduceBEq, Int.reduceBNe, df46, TwR, virtG, wInG, tmod1, c1, c2, c2', c3, c3', c4, c4', c5, c5', c6, c6', c7, c7', cr, cv, p1, p2, hk, Tl.findG, Tl.rFindG, Tl.isTlb_tlbB, h8, hok, hT, Tl.tlbB_cells, Tl.dec_arr, hf, walkG, memF_eq H, walkM, hx, he, WR.v]
      exact hR
  · rw [reach_found ha hf] at hR
    have hfo := found_ok hM hf
    obtain ⟨y, hy⟩ : ∃ y, nth Tl.Ln.z L (Tl.atF asid (v / 16) L 0).toNat = y := ⟨_, rfl⟩
    rw [hy] at hR hfo
    obtain ⟨w1, w2, w4, w5⟩ := hfo
    have hn := and_need (r := y.r) ⟨w4, w5⟩
    have hw : IntKind.i64.wrap (y.x + v % 16) = y.x + v % 16 := by rw [wrap64] <;> omega
    cases w with
    | false =>
      have hn1 := hn.1
      cases hq : allowB y.r false with
      | false =>
        rw [hq] at hn1
        simp only [reachEnd, hq, hself, Bool.false_eq_true, if_false] at hR
        simp (config := { maxSteps := 10000000 }) only [EV1, EV2, EV3, EV4, EV5, EV6, addT, istep, lenR_sl, lenR_ns, lenR_es, pickR, putD, bin1R, un1R, slcR, bnd, capsOf, fillP, S_plain, V_plain, V.cells, S_known, V_known, C.v, blk, setL, setH, eqS, eq1, cmpS, cmp1, isNil, popTo, killT, setT, leT, V.below, C.below, S_below, R.below, V.val, C.val, S_val, R.val, R.takes, vals, shows, List.any_cons, List.any_nil, unnamed, V.kill, V.names, C.names, S_names, R.names, List.set, List.replicate, ↓q_cond_t, ↓q_cond_f, if_true, if_false, reduceCtorEq, rvals, rvC, result, C_known, V.noL, C.noL, S_noL, R.noL, Option.map, true_and, and_true, ge_iff_le, gt_iff_lt, implies_true, q_ite_t, q_ite_f, beq_iff_eq, bne_iff_ne, q_ne, Nat.reduceAdd, Nat.reducePow, Int.reducePow, Nat.reduceMul, Nat.reduceSub, Nat.reduceLeDiff, Nat.reduceLT, Nat.reduceEqDiff, Int.reduceNeg, Int.reduceLT, Int.reduceLE, Int.reduceEq, Int.reduceNe, Int.reduceAdd, Int.reduceSub, Int.reduceMul, Int.reduceToNat, Int.reduceBEq, Int.reduceBNe, df46, TwR, virtG, wInG, tmod1, c1, c2, c2', c3, c3', c4, c4', c5, c5', c6, c6', c7, c7', cr, p1, p2, hk, Tl.findG, Tl.rFindG, Tl.isTlb_tlbB, h8, hok, hT, Tl.tlbB_cells, Tl.dec_arr, hf, hy, hn1, hw, allowG, w4, w5, hq]
        exact hR
      | true =>
        rw [hq] at hn1
        simp only [reachEnd, hq, hself, if_true] at hR
        simp (config := { maxSteps := 10000000 }) only [EV1, EV2, EV3, EV4, EV5, EV6, addT, istep, lenR_sl, lenR_ns, lenR_es, pickR, putD, bin1R, un1R, slcR, bnd, capsOf, fillP, S_plain, V_plain, V.cells, S_known, V_known, C.v, blk, setL, setH, eqS, eq1, cmpS, cmp1, isNil, popTo, killT, setT, leT, V.below, C.below, S_below, R.below, V.val, C.val, S_val, R.val, R.takes, vals, shows, List.any_cons, List.any_nil, unnamed, V.kill, V.names, C.names, S_names, R.names, List.set, List.replicate, ↓q_cond_t, ↓q_cond_f, if_true, if_false, reduceCtorEq, rvals, rvC, result, C_known, V.noL, C.noL, S_noL, R.noL, Option.map, true_and, and_true, ge_iff_le, gt_iff_lt, implies_true, q_ite_t, q_ite_f, beq_iff_eq, bne_iff_ne, q_ne, Nat.reduceAdd, Nat.reducePow, Int.reducePow, Nat.reduceMul, Nat.reduceSub, Nat.reduceLeDiff, Nat.reduceLT, Nat.reduceEqDiff, Int.reduceNeg, Int.reduceLT, Int.reduceLE, Int.reduceEq, Int.reduceNe, Int.reduceAdd, Int.reduceSub, Int.reduceMul, Int.reduceToNat, Int.reduceBEq, Int.reduceBNe, df46, TwR, virtG, wInG, tmod1, c1, c2, c2', c3, c3', c4, c4', c5, c5', c6, c6', c7, c7', cr, p1, p2, hk, Tl.findG, Tl.rFindG, Tl.isTlb_tlbB, h8, hok, hT, Tl.tlbB_cells, Tl.dec_arr, hf, hy, hn1, hw, allowG, w4, w5, hq]
        exact hR
    | true =>
      have hn1 := hn.2
      cases hq : allowB y.r true with
      | false =>
        rw [hq] at hn1
        simp only [reachEnd, hq, hself, Bool.false_eq_true, if_false] at hR
        simp (config := { maxSteps := 10000000 }) only [EV1, EV2, EV3, EV4, EV5, EV6, addT, istep, lenR_sl, lenR_ns, lenR_es, pickR, putD, bin1R, un1R, slcR, bnd, capsOf, fillP, S_plain, V_plain, V.cells, S_known, V_known, C.v, blk, setL, setH, eqS, eq1, cmpS, cmp1, isNil, popTo, killT, setT, leT, V.below, C.below, S_below, R.below, V.val, C.val, S_val, R.val, R.takes, vals, shows, List.any_cons, List.any_nil, unnamed, V.kill, V.names, C.names, S_names, R.names, List.set, List.replicate, ↓q_cond_t, ↓q_cond_f, if_true, if_false, reduceCtorEq, rvals, rvC, result, C_known, V.noL, C.noL, S_noL, R.noL, Option.map, true_and, and_true, ge_iff_le, gt_iff_lt, implies_true, q_ite_t, q_ite_f, beq_iff_eq, bne_iff_ne, q_ne, Nat.reduceAdd, Nat.reducePow, Int.reducePow, Nat.reduceMul, Nat.reduceSub, Nat.reduceLeDiff, Nat.reduceLT, Nat.reduceEqDiff, Int.reduceNeg, Int.reduceLT, Int.reduceLE, Int.reduceEq, Int.reduceNe, Int.reduceAdd, Int.reduceSub, Int.reduceMul, Int.reduceToNat, Int.reduceBEq, Int.reduceBNe, df46, TwR, virtG, wInG, tmod1, c1, c2, c2', c3, c3', c4, c4', c5, c5', c6, c6', c7, c7', cr, p1, p2, hk, Tl.findG, Tl.rFindG, Tl.isTlb_tlbB, h8, hok, hT, Tl.tlbB_cells, Tl.dec_arr, hf, hy, hn1, hw, allowG, w4, w5, hq]
        exact hR
      | true =>
        rw [hq] at hn1
        simp only [reachEnd, hq, hself, if_true] at hR
        simp (config := { maxSteps := 10000000 }) only [EV1, EV2, EV3, EV4, EV5, EV6, addT, istep, lenR_sl, lenR_ns, lenR_es, pickR, putD, bin1R, un1R, slcR, bnd, capsOf, fillP, S_plain, V_plain, V.cells, S_known, V_known, C.v, blk, setL, setH, eqS, eq1, cmpS, cmp1, isNil, popTo, killT, setT, leT, V.below, C.below, S_below, R.below, V.val, C.val, S_val, R.val, R.takes, vals, shows, List.any_cons, List.any_nil, unnamed, V.kill, V.names, C.names, S_names, R.names, List.set, List.replicate, ↓q_cond_t, ↓q_cond_f, if_true, if_false, reduceCtorEq, rvals, rvC, result, C_known, V.noL, C.noL, S_noL, R.noL, Option.map, true_and, and_true, ge_iff_le, gt_iff_lt, implies_true, q_ite_t, q_ite_f, beq_iff_eq, bne_iff_ne, q_ne, Nat.reduceAdd, Nat.reducePow, Int.reducePow, Nat.reduceMul, Nat.reduceSub, Nat.reduceLeDiff, Nat.reduceLT, Nat.reduceEqDiff, Int.reduceNeg, Int.reduceLT, Int.reduceLE, Int.reduceEq, Int.reduceNe, Int.reduceAdd, Int.reduceSub, Int.reduceMul, Int.reduceToNat, Int.reduceBEq, Int.reduceBNe, df46, TwR, virtG, wInG, tmod1, c1, c2, c2', c3, c3', c4, c4', c5, c5', c6, c6', c7, c7', cr, p1, p2, hk, Tl.findG, Tl.rFindG, Tl.isTlb_tlbB, h8, hok, hT, Tl.tlbB_cells, Tl.dec_arr, hf, hy, hn1, hw, allowG, w4, w5, hq]
        exact hR
theorem rReach_snd : Snd Try.prog 50 (FSpec.of reachG) := snd_run TwR_snd mixed Try.func50 dc50 400 fun args h K hc hS => by
  obtain ⟨a, b, k, m, root, asid, v, w, at_, L, rfl, H, hk, h8, hT, hM, hka, hkb, hR⟩ := reachG_spec hS
  clear hS
  have hok := hT.ok
  have hself : (setM h a b m).set k (Tl.tlbB L) = h := by rw [setM_self H, set_self hk]
  have bad : askB root asid v at_ = false → K (RR.v ⟨0, 1, m, L⟩) h := fun e => by
    rw [reach_bad e, hself] at hR; exact hR
  simp only [RR.v] at bad
  cases c1 : virtB v with
  | false =>
    have bad := bad (askB_not fun e => by rw [c1] at e; cases e.1)
    simp (config := { maxSteps := 10000000 }) only [EV1, EV2, EV3, EV4, EV5, EV6, addT, istep, lenR_sl, lenR_ns, lenR_es, pickR, putD, bin1R, un1R, slcR, bnd, capsOf, fillP, S_plain, V_plain, V.cells, S_known, V_known, C.v, blk, setL, setH, eqS, eq1, cmpS, cmp1, isNil, popTo, killT, setT, leT, V.below, C.below, S_below, R.below, V.val, C.val, S_val, R.val, R.takes, vals, shows, List.any_cons, List.any_nil, unnamed, V.kill, V.names, C.names, S_names, R.names, List.set, List.replicate, ↓q_cond_t, ↓q_cond_f, if_true, if_false, reduceCtorEq, rvals, rvC, result, C_known, V.noL, C.noL, S_noL, R.noL, Option.map, true_and, and_true, ge_iff_le, gt_iff_lt, implies_true, q_ite_t, q_ite_f, beq_iff_eq, bne_iff_ne, q_ne, Nat.reduceAdd, Nat.reducePow, Int.reducePow, Nat.reduceMul, Nat.reduceSub, Nat.reduceLeDiff, Nat.reduceLT, Nat.reduceEqDiff, Int.reduceNeg, Int.reduceLT, Int.reduceLE, Int.reduceEq, Int.reduceNe, Int.reduceAdd, Int.reduceSub, Int.reduceMul, Int.reduceToNat, Int.reduceBEq, Int.reduceBNe, df50, TwR, virtG, wInG, tmod1, c1]
    exact bad
  | true =>
  by_cases c2 : 1 ≤ asid
  case neg =>
    have bad := bad (askB_not fun e => c2 e.2.1.1)
    have c2' : asid < 1 := by omega
    simp (config := { maxSteps := 10000000 }) only [EV1, EV2, EV3, EV4, EV5, EV6, addT, istep, lenR_sl, lenR_ns, lenR_es, pickR, putD, bin1R, un1R, slcR, bnd, capsOf, fillP, S_plain, V_plain, V.cells, S_known, V_known, C.v, blk, setL, setH, eqS, eq1, cmpS, cmp1, isNil, popTo, killT, setT, leT, V.below, C.below, S_below, R.below, V.val, C.val, S_val, R.val, R.takes, vals, shows, List.any_cons, List.any_nil, unnamed, V.kill, V.names, C.names, S_names, R.names, List.set, List.replicate, ↓q_cond_t, ↓q_cond_f, if_true, if_false, reduceCtorEq, rvals, rvC, result, C_known, V.noL, C.noL, S_noL, R.noL, Option.map, true_and, and_true, ge_iff_le, gt_iff_lt, implies_true, q_ite_t, q_ite_f, beq_iff_eq, bne_iff_ne, q_ne, Nat.reduceAdd, Nat.reducePow, Int.reducePow, Nat.reduceMul, Nat.reduceSub, Nat.reduceLeDiff, Nat.reduceLT, Nat.reduceEqDiff, Int.reduceNeg, Int.reduceLT, Int.reduceLE, Int.reduceEq, Int.reduceNe, Int.reduceAdd, Int.reduceSub, Int.reduceMul, Int.reduceToNat, Int.reduceBEq, Int.reduceBNe, df50, TwR, virtG, wInG, tmod1, c1, c2, c2']
    exact bad
  by_cases c3 : asid ≤ 63
  case neg =>
    have bad := bad (askB_not fun e => c3 e.2.1.2)
    have c2' : ¬ asid < 1 := by omega
    have c3' : 63 < asid := by omega
    simp (config := { maxSteps := 10000000 }) only [EV1, EV2, EV3, EV4, EV5, EV6, addT, istep, lenR_sl, lenR_ns, lenR_es, pickR, putD, bin1R, un1R, slcR, bnd, capsOf, fillP, S_plain, V_plain, V.cells, S_known, V_known, C.v, blk, setL, setH, eqS, eq1, cmpS, cmp1, isNil, popTo, killT, setT, leT, V.below, C.below, S_below, R.below, V.val, C.val, S_val, R.val, R.takes, vals, shows, List.any_cons, List.any_nil, unnamed, V.kill, V.names, C.names, S_names, R.names, List.set, List.replicate, ↓q_cond_t, ↓q_cond_f, if_true, if_false, reduceCtorEq, rvals, rvC, result, C_known, V.noL, C.noL, S_noL, R.noL, Option.map, true_and, and_true, ge_iff_le, gt_iff_lt, implies_true, q_ite_t, q_ite_f, beq_iff_eq, bne_iff_ne, q_ne, Nat.reduceAdd, Nat.reducePow, Int.reducePow, Nat.reduceMul, Nat.reduceSub, Nat.reduceLeDiff, Nat.reduceLT, Nat.reduceEqDiff, Int.reduceNeg, Int.reduceLT, Int.reduceLE, Int.reduceEq, Int.reduceNe, Int.reduceAdd, Int.reduceSub, Int.reduceMul, Int.reduceToNat, Int.reduceBEq, Int.reduceBNe, df50, TwR, virtG, wInG, tmod1, c1, c2, c2', c3, c3']
    exact bad
  have c2' : ¬ asid < 1 := by omega
  have c3' : ¬ 63 < asid := by omega
  by_cases c4 : 0 ≤ root
  case neg =>
    have bad := bad (askB_not fun e => c4 (by have := e.2.2.1; simp [virtB] at this; exact this.1))
    have c4' : root < 0 := by omega
    simp (config := { maxSteps := 10000000 }) only [EV1, EV2, EV3, EV4, EV5, EV6, addT, istep, lenR_sl, lenR_ns, lenR_es, pickR, putD, bin1R, un1R, slcR, bnd, capsOf, fillP, S_plain, V_plain, V.cells, S_known, V_known, C.v, blk, setL, setH, eqS, eq1, cmpS, cmp1, isNil, popTo, killT, setT, leT, V.below, C.below, S_below, R.below, V.val, C.val, S_val, R.val, R.takes, vals, shows, List.any_cons, List.any_nil, unnamed, V.kill, V.names, C.names, S_names, R.names, List.set, List.replicate, ↓q_cond_t, ↓q_cond_f, if_true, if_false, reduceCtorEq, rvals, rvC, result, C_known, V.noL, C.noL, S_noL, R.noL, Option.map, true_and, and_true, ge_iff_le, gt_iff_lt, implies_true, q_ite_t, q_ite_f, beq_iff_eq, bne_iff_ne, q_ne, Nat.reduceAdd, Nat.reducePow, Int.reducePow, Nat.reduceMul, Nat.reduceSub, Nat.reduceLeDiff, Nat.reduceLT, Nat.reduceEqDiff, Int.reduceNeg, Int.reduceLT, Int.reduceLE, Int.reduceEq, Int.reduceNe, Int.reduceAdd, Int.reduceSub, Int.reduceMul, Int.reduceToNat, Int.reduceBEq, Int.reduceBNe, df50, TwR, virtG, wInG, tmod1, c1, c2, c2', c3, c3', c4, c4']
    exact bad
  have c4' : ¬ root < 0 := by omega
  by_cases c5 : root ≤ 65535
  case neg =>
    have bad := bad (askB_not fun e => c5 (by have := e.2.2.1; simp [virtB] at this; exact this.2))
    have c5' : 65535 < root := by omega
    simp (config := { maxSteps := 10000000 }) only [EV1, EV2, EV3, EV4, EV5, EV6, addT, istep, lenR_sl, lenR_ns, lenR_es, pickR, putD, bin1R, un1R, slcR, bnd, capsOf, fillP, S_plain, V_plain, V.cells, S_known, V_known, C.v, blk, setL, setH, eqS, eq1, cmpS, cmp1, isNil, popTo, killT, setT, leT, V.below, C.below, S_below, R.below, V.val, C.val, S_val, R.val, R.takes, vals, shows, List.any_cons, List.any_nil, unnamed, V.kill, V.names, C.names, S_names, R.names, List.set, List.replicate, ↓q_cond_t, ↓q_cond_f, if_true, if_false, reduceCtorEq, rvals, rvC, result, C_known, V.noL, C.noL, S_noL, R.noL, Option.map, true_and, and_true, ge_iff_le, gt_iff_lt, implies_true, q_ite_t, q_ite_f, beq_iff_eq, bne_iff_ne, q_ne, Nat.reduceAdd, Nat.reducePow, Int.reducePow, Nat.reduceMul, Nat.reduceSub, Nat.reduceLeDiff, Nat.reduceLT, Nat.reduceEqDiff, Int.reduceNeg, Int.reduceLT, Int.reduceLE, Int.reduceEq, Int.reduceNe, Int.reduceAdd, Int.reduceSub, Int.reduceMul, Int.reduceToNat, Int.reduceBEq, Int.reduceBNe, df50, TwR, virtG, wInG, tmod1, c1, c2, c2', c3, c3', c4, c4', c5, c5']
    exact bad
  have c5' : ¬ 65535 < root := by omega
  by_cases c6 : 0 ≤ at_
  case neg =>
    have bad := bad (askB_not fun e => c6 e.2.2.2.1)
    have c6' : at_ < 0 := by omega
    simp (config := { maxSteps := 10000000 }) only [EV1, EV2, EV3, EV4, EV5, EV6, addT, istep, lenR_sl, lenR_ns, lenR_es, pickR, putD, bin1R, un1R, slcR, bnd, capsOf, fillP, S_plain, V_plain, V.cells, S_known, V_known, C.v, blk, setL, setH, eqS, eq1, cmpS, cmp1, isNil, popTo, killT, setT, leT, V.below, C.below, S_below, R.below, V.val, C.val, S_val, R.val, R.takes, vals, shows, List.any_cons, List.any_nil, unnamed, V.kill, V.names, C.names, S_names, R.names, List.set, List.replicate, ↓q_cond_t, ↓q_cond_f, if_true, if_false, reduceCtorEq, rvals, rvC, result, C_known, V.noL, C.noL, S_noL, R.noL, Option.map, true_and, and_true, ge_iff_le, gt_iff_lt, implies_true, q_ite_t, q_ite_f, beq_iff_eq, bne_iff_ne, q_ne, Nat.reduceAdd, Nat.reducePow, Int.reducePow, Nat.reduceMul, Nat.reduceSub, Nat.reduceLeDiff, Nat.reduceLT, Nat.reduceEqDiff, Int.reduceNeg, Int.reduceLT, Int.reduceLE, Int.reduceEq, Int.reduceNe, Int.reduceAdd, Int.reduceSub, Int.reduceMul, Int.reduceToNat, Int.reduceBEq, Int.reduceBNe, df50, TwR, virtG, wInG, tmod1, c1, c2, c2', c3, c3', c4, c4', c5, c5', c6, c6']
    exact bad
  have c6' : ¬ at_ < 0 := by omega
  by_cases c7 : at_ ≤ 7
  case neg =>
    have bad := bad (askB_not fun e => c7 e.2.2.2.2)
    have c7' : 7 < at_ := by omega
    simp (config := { maxSteps := 10000000 }) only [EV1, EV2, EV3, EV4, EV5, EV6, addT, istep, lenR_sl, lenR_ns, lenR_es, pickR, putD, bin1R, un1R, slcR, bnd, capsOf, fillP, S_plain, V_plain, V.cells, S_known, V_known, C.v, blk, setL, setH, eqS, eq1, cmpS, cmp1, isNil, popTo, killT, setT, leT, V.below, C.below, S_below, R.below, V.val, C.val, S_val, R.val, R.takes, vals, shows, List.any_cons, List.any_nil, unnamed, V.kill, V.names, C.names, S_names, R.names, List.set, List.replicate, ↓q_cond_t, ↓q_cond_f, if_true, if_false, reduceCtorEq, rvals, rvC, result, C_known, V.noL, C.noL, S_noL, R.noL, Option.map, true_and, and_true, ge_iff_le, gt_iff_lt, implies_true, q_ite_t, q_ite_f, beq_iff_eq, bne_iff_ne, q_ne, Nat.reduceAdd, Nat.reducePow, Int.reducePow, Nat.reduceMul, Nat.reduceSub, Nat.reduceLeDiff, Nat.reduceLT, Nat.reduceEqDiff, Int.reduceNeg, Int.reduceLT, Int.reduceLE, Int.reduceEq, Int.reduceNe, Int.reduceAdd, Int.reduceSub, Int.reduceMul, Int.reduceToNat, Int.reduceBEq, Int.reduceBNe, df50, TwR, virtG, wInG, tmod1, c1, c2, c2', c3, c3', c4, c4', c5, c5', c6, c6', c7, c7']
    exact bad
  have c7' : ¬ 7 < at_ := by omega
  clear bad
  have cv : virtB root = true := by simp [virtB]; omega
  have cr : (decide (0 ≤ root) && decide (root ≤ 65535)) = true := by rw [virt_and, cv]
  have ha : askB root asid v at_ = true := askB_iff.2 ⟨c1, ⟨c2, c3⟩, cv, c6, c7⟩
  have hv : 0 ≤ v ∧ v ≤ 65535 := by simpa [virtB] using c1
  have p1 : IntKind.i64.wrap (v.tdiv 16) = v / 16 := by rw [Int.tdiv_eq_ediv_of_nonneg hv.1, wrap64] <;> omega
  have p2 : v.tmod 16 = v % 16 := Int.tmod_eq_emod_of_nonneg hv.1
  by_cases hf : Tl.atF asid (v / 16) L 0 < 0
  · rcases walkF_ok v 4 m root 0 with ⟨he, w1, w2, w3, w4, w5⟩ | ⟨he, w1, w2⟩
    · rw [reach_walk ha hf he] at hR
      obtain ⟨x, hx⟩ : ∃ x, walkF v 4 m root 0 = x := ⟨_, rfl⟩
      rw [hx] at hR he w1 w2 w3 w4 w5
      have hks : (setM h a b x.m)[k]? = some (Tl.tlbB L) := by
        simp only [setM]
        rw [set_miss (Ne.symm hkb), set_miss (Ne.symm hka)]; exact hk
      have hfb : Tl.fillB ⟨asid, v / 16, x.a, x.r⟩ at_ = true := by
        simp only [Tl.fillB, Tl.Ln.may, Bool.and_eq_true, decide_eq_true_eq]
        omega
      have hn := and_need (r := x.r) ⟨w4, w5⟩
      have hw : IntKind.i64.wrap (x.a + v % 16) = x.a + v % 16 := by rw [wrap64] <;> omega
      cases w with
      | false =>
        cases hq : allowB x.r false with
        | false =>
          have hn1 := hn.1
          rw [hq] at hn1
          simp only [reachEnd, hq] at hR
          simp (config := { maxSteps := 10000000 }) only [EV1, EV2, EV3, EV4, EV5, EV6, addT, istep, lenR_sl, lenR_ns, lenR_es, pickR, putD, bin1R, un1R, slcR, bnd, capsOf, fillP, S_plain, V_plain, V.cells, S_known, V_known, C.v, blk, setL, setH, eqS, eq1, cmpS, cmp1, isNil, popTo, killT, setT, leT, V.below, C.below, S_below, R.below, V.val, C.val, S_val, R.val, R.takes, vals, shows, List.any_cons, List.any_nil, unnamed, V.kill, V.names, C.names, S_names, R.names, List.set, List.replicate, ↓q_cond_t, ↓q_cond_f, if_true, if_false, reduceCtorEq, rvals, rvC, result, C_known, V.noL, C.noL, S_noL, R.noL, Option.map, true_and, and_true, ge_iff_le, gt_iff_lt, implies_true, q_ite_t, q_ite_f, beq_iff_eq, bne_iff_ne, q_ne, Nat.reduceAdd, Nat.reducePow, Int.reducePow, Nat.reduceMul, Nat.reduceSub, Nat.reduceLeDiff, Nat.reduceLT, Nat.reduceEqDiff, Int.reduceNeg, Int.reduceLT, Int.reduceLE, Int.reduceEq, Int.reduceNe, Int.reduceAdd, Int.reduceSub, Int.reduceMul, Int.reduceToNat, Int.reduceBEq, Int.reduceBNe, df50, TwR, virtG, wInG, tmod1, c1, c2, c2', c3, c3', c4, c4', c5, c5', c6, c6', c7, c7', cr, cv, p1, p2, hk, Tl.findG, Tl.rFindG, Tl.isTlb_tlbB, h8, hok, hT, Tl.tlbB_cells, Tl.dec_arr, hf, walkG, memF_eq H, walkM, hx, he, WR.v, Tl.fillG, Tl.rFillG, hks, hfb, hn1, hw, allowG, w4, w5, hq, put, fillP]
          exact hR
        | true =>
          have hn1 := hn.1
          rw [hq] at hn1
          simp only [reachEnd, hq] at hR
          simp (config := { maxSteps := 10000000 }) only [EV1, EV2, EV3, EV4, EV5, EV6, addT, istep, lenR_sl, lenR_ns, lenR_es, pickR, putD, bin1R, un1R, slcR, bnd, capsOf, fillP, S_plain, V_plain, V.cells, S_known, V_known, C.v, blk, setL, setH, eqS, eq1, cmpS, cmp1, isNil, popTo, killT, setT, leT, V.below, C.below, S_below, R.below, V.val, C.val, S_val, R.val, R.takes, vals, shows, List.any_cons, List.any_nil, unnamed, V.kill, V.names, C.names, S_names, R.names, List.set, List.replicate, ↓q_cond_t, ↓q_cond_f, if_true, if_false, reduceCtorEq, rvals, rvC, result, C_known, V.noL, C.noL, S_noL, R.noL, Option.map, true_and, and_true, ge_iff_le, gt_iff_lt, implies_true, q_ite_t, q_ite_f, beq_iff_eq, bne_iff_ne, q_ne, Nat.reduceAdd, Nat.reducePow, Int.reducePow, Nat.reduceMul, Nat.reduceSub, Nat.reduceLeDiff, Nat.reduceLT, Nat.reduceEqDiff, Int.reduceNeg, Int.reduceLT, Int.reduceLE, Int.reduceEq, Int.reduceNe, Int.reduceAdd, Int.reduceSub, Int.reduceMul, Int.reduceToNat, Int.reduceBEq, Int.reduceBNe, df50, TwR, virtG, wInG, tmod1, c1, c2, c2', c3, c3', c4, c4', c5, c5', c6, c6', c7, c7', cr, cv, p1, p2, hk, Tl.findG, Tl.rFindG, Tl.isTlb_tlbB, h8, hok, hT, Tl.tlbB_cells, Tl.dec_arr, hf, walkG, memF_eq H, walkM, hx, he, WR.v, Tl.fillG, Tl.rFillG, hks, hfb, hn1, hw, allowG, w4, w5, hq, put, fillP]
          exact hR
      | true =>
        cases hq : allowB x.r true with
        | false =>
          have hn1 := hn.2
          rw [hq] at hn1
          simp only [reachEnd, hq] at hR
          simp (config := { maxSteps := 10000000 }) only [EV1, EV2, EV3, EV4, EV5, EV6, addT, istep, lenR_sl, lenR_ns, lenR_es, pickR, putD, bin1R, un1R, slcR, bnd, capsOf, fillP, S_plain, V_plain, V.cells, S_known, V_known, C.v, blk, setL, setH, eqS, eq1, cmpS, cmp1, isNil, popTo, killT, setT, leT, V.below, C.below, S_below, R.below, V.val, C.val, S_val, R.val, R.takes, vals, shows, List.any_cons, List.any_nil, unnamed, V.kill, V.names, C.names, S_names, R.names, List.set, List.replicate, ↓q_cond_t, ↓q_cond_f, if_true, if_false, reduceCtorEq, rvals, rvC, result, C_known, V.noL, C.noL, S_noL, R.noL, Option.map, true_and, and_true, ge_iff_le, gt_iff_lt, implies_true, q_ite_t, q_ite_f, beq_iff_eq, bne_iff_ne, q_ne, Nat.reduceAdd, Nat.reducePow, Int.reducePow, Nat.reduceMul, Nat.reduceSub, Nat.reduceLeDiff, Nat.reduceLT, Nat.reduceEqDiff, Int.reduceNeg, Int.reduceLT, Int.reduceLE, Int.reduceEq, Int.reduceNe, Int.reduceAdd, Int.reduceSub, Int.reduceMul, Int.reduceToNat, Int.reduceBEq, Int.reduceBNe, df50, TwR, virtG, wInG, tmod1, c1, c2, c2', c3, c3', c4, c4', c5, c5', c6, c6', c7, c7', cr, cv, p1, p2, hk, Tl.findG, Tl.rFindG, Tl.isTlb_tlbB, h8, hok, hT, Tl.tlbB_cells, Tl.dec_arr, hf, walkG, memF_eq H, walkM, hx, he, WR.v, Tl.fillG, Tl.rFillG, hks, hfb, hn1, hw, allowG, w4, w5, hq, put, fillP]
          exact hR
        | true =>
          have hn1 := hn.2
          rw [hq] at hn1
          simp only [reachEnd, hq] at hR
          simp (config := { maxSteps := 10000000 }) only [EV1, EV2, EV3, EV4, EV5, EV6, addT, istep, lenR_sl, lenR_ns, lenR_es, pickR, putD, bin1R, un1R, slcR, bnd, capsOf, fillP, S_plain, V_plain, V.cells, S_known, V_known, C.v, blk, setL, setH, eqS, eq1, cmpS, cmp1, isNil, popTo, killT, setT, leT, V.below, C.below, S_below, R.below, V.val, C.val, S_val, R.val, R.takes, vals, shows, List.any_cons, List.any_nil, unnamed, V.kill, V.names, C.names, S_names, R.names, List.set, List.replicate, ↓q_cond_t, ↓q_cond_f, if_true, if_false, reduceCtorEq, rvals, rvC, result, C_known, V.noL, C.noL, S_noL, R.noL, Option.map, true_and, and_true, ge_iff_le, gt_iff_lt, implies_true, q_ite_t, q_ite_f, beq_iff_eq, bne_iff_ne, q_ne, Nat.reduceAdd, Nat.reducePow, Int.reducePow, Nat.reduceMul, Nat.reduceSub, Nat.reduceLeDiff, Nat.reduceLT, Nat.reduceEqDiff, Int.reduceNeg, Int.reduceLT, Int.reduceLE, Int.reduceEq, Int.reduceNe, Int.reduceAdd, Int.reduceSub, Int.reduceMul, Int.reduceToNat, Int.reduceBEq, Int.reduceBNe, df50, TwR, virtG, wInG, tmod1, c1, c2, c2', c3, c3', c4, c4', c5, c5', c6, c6', c7, c7', cr, cv, p1, p2, hk, Tl.findG, Tl.rFindG, Tl.isTlb_tlbB, h8, hok, hT, Tl.tlbB_cells, Tl.dec_arr, hf, walkG, memF_eq H, walkM, hx, he, WR.v, Tl.fillG, Tl.rFillG, hks, hfb, hn1, hw, allowG, w4, w5, hq, put, fillP]
          exact hR
    · rw [reach_fault ha hf (by rw [he]; decide)] at hR
      obtain ⟨x, hx⟩ : ∃ x, walkF v 4 m root 0 = x := ⟨_, rfl⟩
      rw [hx] at hR he
      rw [he] at hR
      have hks : (setM h a b x.m)[k]? = some (Tl.tlbB L) := by
        simp only [setM]
        rw [set_miss (Ne.symm hkb), set_miss (Ne.symm hka)]; exact hk
      simp only [set_self hks, RR.v] at hR
      simp (config := { maxSteps := 10000000 }) only [EV1, EV2, EV3, EV4, EV5, EV6, addT, istep, lenR_sl, lenR_ns, lenR_es, pickR, putD, bin1R, un1R, slcR, bnd, capsOf, fillP, S_plain, V_plain, V.cells, S_known, V_known, C.v, blk, setL, setH, eqS, eq1, cmpS, cmp1, isNil, popTo, killT, setT, leT, V.below, C.below, S_below, R.below, V.val, C.val, S_val, R.val, R.takes, vals, shows, List.any_cons, List.any_nil, unnamed, V.kill, V.names, C.names, S_names, R.names, List.set, List.replicate, ↓q_cond_t, ↓q_cond_f, if_true, if_false, reduceCtorEq, rvals, rvC, result, C_known, V.noL, C.noL, S_noL, R.noL, Option.map, true_and, and_true, ge_iff_le, gt_iff_lt, implies_true, q_ite_t, q_ite_f, beq_iff_eq, bne_iff_ne, q_ne, Nat.reduceAdd, Nat.reducePow, Int.reducePow, Nat.reduceMul, Nat.reduceSub, Nat.reduceLeDiff, Nat.reduceLT, Nat.reduceEqDiff, Int.reduceNeg, Int.reduceLT, Int.reduceLE, Int.reduceEq, Int.reduceNe, Int.reduceAdd, Int.reduceSub, Int.reduceMul, Int.reduceToNat, Int.reduceBEq, Int.reduceBNe, df50, TwR, virtG, wInG, tmod1, c1, c2, c2', c3, c3', c4, c4', c5, c5', c6, c6', c7, c7', cr, cv, p1, p2, hk, Tl.findG, Tl.rFindG, Tl.isTlb_tlbB, h8, hok, hT, Tl.tlbB_cells, Tl.dec_arr, hf, walkG, memF_eq H, walkM, hx, he, WR.v]
      exact hR
  · rw [reach_found ha hf] at hR
    have hfo := found_ok hM hf
    obtain ⟨y, hy⟩ : ∃ y, nth Tl.Ln.z L (Tl.atF asid (v / 16) L 0).toNat = y := ⟨_, rfl⟩
    rw [hy] at hR hfo
    obtain ⟨w1, w2, w4, w5⟩ := hfo
    have hn := and_need (r := y.r) ⟨w4, w5⟩
    have hw : IntKind.i64.wrap (y.x + v % 16) = y.x + v % 16 := by rw [wrap64] <;> omega
    cases w with
    | false =>
      have hn1 := hn.1
      cases hq : allowB y.r false with
      | false =>
        rw [hq] at hn1
        simp only [reachEnd, hq, hself, Bool.false_eq_true, if_false] at hR
        simp (config := { maxSteps := 10000000 }) only [EV1, EV2, EV3, EV4, EV5, EV6, addT, istep, lenR_sl, lenR_ns, lenR_es, pickR, putD, bin1R, un1R, slcR, bnd, capsOf, fillP, S_plain, V_plain, V.cells, S_known, V_known, C.v, blk, setL, setH, eqS, eq1, cmpS, cmp1, isNil, popTo, killT, setT, leT, V.below, C.below, S_below, R.below, V.val, C.val, S_val, R.val, R.takes, vals, shows, List.any_cons, List.any_nil, unnamed, V.kill, V.names, C.names, S_names, R.names, List.set, List.replicate, ↓q_cond_t, ↓q_cond_f, if_true, if_false, reduceCtorEq, rvals, rvC, result, C_known, V.noL, C.noL, S_noL, R.noL, Option.map, true_and, and_true, ge_iff_le, gt_iff_lt, implies_true, q_ite_t, q_ite_f, beq_iff_eq, bne_iff_ne, q_ne, Nat.reduceAdd, Nat.reducePow, Int.reducePow, Nat.reduceMul, Nat.reduceSub, Nat.reduceLeDiff, Nat.reduceLT, Nat.reduceEqDiff, Int.reduceNeg, Int.reduceLT, Int.reduceLE, Int.reduceEq, Int.reduceNe, Int.reduceAdd, Int.reduceSub, Int.reduceMul, Int.reduceToNat, Int.reduceBEq, Int.reduceBNe, df50, TwR, virtG, wInG, tmod1, c1, c2, c2', c3, c3', c4, c4', c5, c5', c6, c6', c7, c7', cr, p1, p2, hk, Tl.findG, Tl.rFindG, Tl.isTlb_tlbB, h8, hok, hT, Tl.tlbB_cells, Tl.dec_arr, hf, hy, hn1, hw, allowG, w4, w5, hq]
        exact hR
      | true =>
        rw [hq] at hn1
        simp only [reachEnd, hq, hself, if_true] at hR
        simp (config := { maxSteps := 10000000 }) only [EV1, EV2, EV3, EV4, EV5, EV6, addT, istep, lenR_sl, lenR_ns, lenR_es, pickR, putD, bin1R, un1R, slcR, bnd, capsOf, fillP, S_plain, V_plain, V.cells, S_known, V_known, C.v, blk, setL, setH, eqS, eq1, cmpS, cmp1, isNil, popTo, killT, setT, leT, V.below, C.below, S_below, R.below, V.val, C.val, S_val, R.val, R.takes, vals, shows, List.any_cons, List.any_nil, unnamed, V.kill, V.names, C.names, S_names, R.names, List.set, List.replicate, ↓q_cond_t, ↓q_cond_f, if_true, if_false, reduceCtorEq, rvals, rvC, result, C_known, V.noL, C.noL, S_noL, R.noL, Option.map, true_and, and_true, ge_iff_le, gt_iff_lt, implies_true, q_ite_t, q_ite_f, beq_iff_eq, bne_iff_ne, q_ne, Nat.reduceAdd, Nat.reducePow, Int.reducePow, Nat.reduceMul, Nat.reduceSub, Nat.reduceLeDiff, Nat.reduceLT, Nat.reduceEqDiff, Int.reduceNeg, Int.reduceLT, Int.reduceLE, Int.reduceEq, Int.reduceNe, Int.reduceAdd, Int.reduceSub, Int.reduceMul, Int.reduceToNat, Int.reduceBEq, Int.reduceBNe, df50, TwR, virtG, wInG, tmod1, c1, c2, c2', c3, c3', c4, c4', c5, c5', c6, c6', c7, c7', cr, p1, p2, hk, Tl.findG, Tl.rFindG, Tl.isTlb_tlbB, h8, hok, hT, Tl.tlbB_cells, Tl.dec_arr, hf, hy, hn1, hw, allowG, w4, w5, hq]
        exact hR
    | true =>
      have hn1 := hn.2
      cases hq : allowB y.r true with
      | false =>
        rw [hq] at hn1
        simp only [reachEnd, hq, hself, Bool.false_eq_true, if_false] at hR
        simp (config := { maxSteps := 10000000 }) only [EV1, EV2, EV3, EV4, EV5, EV6, addT, istep, lenR_sl, lenR_ns, lenR_es, pickR, putD, bin1R, un1R, slcR, bnd, capsOf, fillP, S_plain, V_plain, V.cells, S_known, V_known, C.v, blk, setL, setH, eqS, eq1, cmpS, cmp1, isNil, popTo, killT, setT, leT, V.below, C.below, S_below, R.below, V.val, C.val, S_val, R.val, R.takes, vals, shows, List.any_cons, List.any_nil, unnamed, V.kill, V.names, C.names, S_names, R.names, List.set, List.replicate, ↓q_cond_t, ↓q_cond_f, if_true, if_false, reduceCtorEq, rvals, rvC, result, C_known, V.noL, C.noL, S_noL, R.noL, Option.map, true_and, and_true, ge_iff_le, gt_iff_lt, implies_true, q_ite_t, q_ite_f, beq_iff_eq, bne_iff_ne, q_ne, Nat.reduceAdd, Nat.reducePow, Int.reducePow, Nat.reduceMul, Nat.reduceSub, Nat.reduceLeDiff, Nat.reduceLT, Nat.reduceEqDiff, Int.reduceNeg, Int.reduceLT, Int.reduceLE, Int.reduceEq, Int.reduceNe, Int.reduceAdd, Int.reduceSub, Int.reduceMul, Int.reduceToNat, Int.reduceBEq, Int.reduceBNe, df50, TwR, virtG, wInG, tmod1, c1, c2, c2', c3, c3', c4, c4', c5, c5', c6, c6', c7, c7', cr, p1, p2, hk, Tl.findG, Tl.rFindG, Tl.isTlb_tlbB, h8, hok, hT, Tl.tlbB_cells, Tl.dec_arr, hf, hy, hn1, hw, allowG, w4, w5, hq]
        exact hR
      | true =>
        rw [hq] at hn1
        simp only [reachEnd, hq, hself, if_true] at hR
        simp (config := { maxSteps := 10000000 }) only [EV1, EV2, EV3, EV4, EV5, EV6, addT, istep, lenR_sl, lenR_ns, lenR_es, pickR, putD, bin1R, un1R, slcR, bnd, capsOf, fillP, S_plain, V_plain, V.cells, S_known, V_known, C.v, blk, setL, setH, eqS, eq1, cmpS, cmp1, isNil, popTo, killT, setT, leT, V.below, C.below, S_below, R.below, V.val, C.val, S_val, R.val, R.takes, vals, shows, List.any_cons, List.any_nil, unnamed, V.kill, V.names, C.names, S_names, R.names, List.set, List.replicate, ↓q_cond_t, ↓q_cond_f, if_true, if_false, reduceCtorEq, rvals, rvC, result, C_known, V.noL, C.noL, S_noL, R.noL, Option.map, true_and, and_true, ge_iff_le, gt_iff_lt, implies_true, q_ite_t, q_ite_f, beq_iff_eq, bne_iff_ne, q_ne, Nat.reduceAdd, Nat.reducePow, Int.reducePow, Nat.reduceMul, Nat.reduceSub, Nat.reduceLeDiff, Nat.reduceLT, Nat.reduceEqDiff, Int.reduceNeg, Int.reduceLT, Int.reduceLE, Int.reduceEq, Int.reduceNe, Int.reduceAdd, Int.reduceSub, Int.reduceMul, Int.reduceToNat, Int.reduceBEq, Int.reduceBNe, df50, TwR, virtG, wInG, tmod1, c1, c2, c2', c3, c3', c4, c4', c5, c5', c6, c6', c7, c7', cr, p1, p2, hk, Tl.findG, Tl.rFindG, Tl.isTlb_tlbB, h8, hok, hT, Tl.tlbB_cells, Tl.dec_arr, hf, hy, hn1, hw, allowG, w4, w5, hq]
        exact hR
end Go.Proofs.Yteeeidldknlblaa

/- Law 05: awake. -/
namespace Go.Proofs.Yteeeidldknlblaa
open Go.D
set_option linter.all false
set_option maxRecDepth 100000
set_option maxHeartbeats 8000000

def chapterL : List Wd := [⟨1025, ⟨true, false, 1032, 0⟩, false, 0⟩, ⟨1034, ⟨true, false, 1040, 0⟩, false, 0⟩, ⟨1043, ⟨true, false, 1048, 0⟩, false, 0⟩, ⟨1052, ⟨true, true, 2048, 1⟩, false, 0⟩]
def chapterB : Blk := ⟨.rw, arr Wd.c chapterL, 28⟩
def chapterG : List V → List Blk → Res
  | [], h => .ok (.s (.sl (.g h.length) 0 4 4)) [] (h ++ [chapterB])
  | _, _ => .bad
theorem chapter_snd : Snd Try.prog 66 (FSpec.of chapterG) := snd_run (noT_snd _) mixed Try.func66 dc66 100 fun args h K hc hS => by
  unfold chapterG at hS
  split at hS
  · simp only [spec_ok] at hS
    simp (config := { maxSteps := 10000000 }) only [EV1, EV2, EV3, EV4, EV5, EV6, addT, istep, lenR_sl, lenR_ns, lenR_es, pickR, putD, bin1R, un1R, slcR, bnd, capsOf, fillP, S_plain, V_plain, V.cells, S_known, V_known, C.v, blk, setL, setH, eqS, eq1, cmpS, cmp1, isNil, popTo, killT, setT, leT, V.below, C.below, S_below, R.below, V.val, C.val, S_val, R.val, R.takes, vals, shows, List.any_cons, List.any_nil, unnamed, V.kill, V.names, C.names, S_names, R.names, List.set, List.replicate, ↓q_cond_t, ↓q_cond_f, if_true, if_false, reduceCtorEq, rvals, rvC, result, C_known, V.noL, C.noL, S_noL, R.noL, Option.map, true_and, and_true, ge_iff_le, gt_iff_lt, implies_true, q_ite_t, q_ite_f, beq_iff_eq, bne_iff_ne, q_ne, Nat.reduceAdd, Nat.reducePow, Int.reducePow, Nat.reduceMul, Nat.reduceSub, Nat.reduceLeDiff, Nat.reduceLT, Nat.reduceEqDiff, Int.reduceNeg, Int.reduceLT, Int.reduceLE, Int.reduceEq, Int.reduceNe, Int.reduceAdd, Int.reduceSub, Int.reduceMul, Int.reduceToNat, Int.reduceBEq, Int.reduceBNe, df66, put, fillP]
    refine ⟨[0], by simp, rfl, ?_⟩
    simp only [getAll, List.getElem?_cons_zero]
    exact ⟨rfl, hS⟩
  · exact hS.elim

/-- What the chapter's tables hold. -/
structure Chap (m : M) : Prop where
  l : m.w.length = 4096
  a : m.at 1025 = 67633153
  b : m.at 1034 = 68157441
  c : m.at 1043 = 68681729
  d : m.at 1052 = 134217735
  z : m.at 1035 = 0
theorem laid1_at {m : M} {x : Wd} (h1 : x.on = true) (h2 : 0 ≤ x.addr ∧ x.addr < m.w.length) (h3 : u64 x.word) (j : Int) : (m.laid1 x).at j = if x.addr.toNat = j.toNat then x.word else m.at j := by
  have hh : m.has x.addr (([x.word] : List Int).length) = true := M.has_of (by simp; omega)
  rw [M.laid1, h1, if_pos rfl, M.loadX, hh, if_pos rfl, M.lay, M.lay, M.at_put]
  by_cases e : x.addr.toNat = j.toNat
  · rw [if_pos ⟨e, by omega⟩, if_pos e, uw_of h3]
  · rw [if_neg (fun x => e x.1), if_neg e]
theorem chap_laid {z : M} (hz : M.zero 12 = z) : Chap (z.laid chapterL) := by
  have l0 : z.w.length = 4096 := by rw [← hz]; exact M.zero_len 12
  have z0 : ∀ j, z.at j = 0 := fun j => by rw [← hz]; exact M.at_zero 12 j
  have key : ∀ j : Int, (z.laid chapterL).at j = if (1052 : Int).toNat = j.toNat then 134217735 else if (1043 : Int).toNat = j.toNat then 68681729 else if (1034 : Int).toNat = j.toNat then 68157441 else if (1025 : Int).toNat = j.toNat then 67633153 else 0 := fun j => by
    simp only [chapterL, M.laid]
    rw [laid1_at rfl (by simp only [M.laid1_len, l0]; decide) (by constructor <;> decide), laid1_at rfl (by simp only [M.laid1_len, l0]; decide) (by constructor <;> decide),
      laid1_at rfl (by simp only [M.laid1_len, l0]; decide) (by constructor <;> decide), laid1_at rfl (by simp only [l0]; decide) (by constructor <;> decide), z0]
    rfl
  refine ⟨by rw [M.laid_len, l0], ?_, ?_, ?_, ?_, ?_⟩ <;> rw [key] <;> rfl
theorem Chap.tick {m : M} (h : Chap m) (k : Int) : Chap (m.tick k) := ⟨h.l, h.a, h.b, h.c, h.d, h.z⟩
theorem chap_step {m : M} (h : Chap m) {t v l : Int} {i : Nat} {w : Int} (e1 : atW t v l = i) (hi : i < 4096) (hw : m.at i = w) : m.has (atW t v l) 1 = true ∧ m.readV (atW t v l) = w ∧ m.readX (atW t v l) = m.tick 1 := by
  rw [e1]
  have hl := h.l
  exact ⟨M.has_of (by omega), by rw [M.readV_t (by omega), hw], M.readX_t (by omega)⟩
theorem chap_walk {m : M} (h : Chap m) : walkF 10693 4 m 1024 0 = ⟨2048, 1, 3, 0, m.tick 4⟩ := by
  obtain ⟨a1, a2, a3⟩ := chap_step h (t := 1024) (v := 10693) (l := 0) (i := 1025) (by decide) (by decide) h.a
  have s1 : stepB m 1024 10693 0 = true := by simp only [stepB, a1, a2]; decide
  rw [walk_on s1 (by decide), a2, a3]
  have h := h.tick 1
  obtain ⟨b1, b2, b3⟩ := chap_step h (t := 1032) (v := 10693) (l := 1) (i := 1034) (by decide) (by decide) h.b
  have s2 : stepB (m.tick 1) 1032 10693 1 = true := by simp only [stepB, b1, b2]; decide
  rw [show (enOf 67633153).a = 1032 from rfl, show (0 : Int) + 1 = 1 from rfl, walk_on s2 (by decide), b2, b3]
  have h := h.tick 1
  obtain ⟨c1, c2, c3⟩ := chap_step h (t := 1040) (v := 10693) (l := 2) (i := 1043) (by decide) (by decide) h.c
  have s3 : stepB ((m.tick 1).tick 1) 1040 10693 2 = true := by simp only [stepB, c1, c2]; decide
  rw [show (enOf 68157441).a = 1040 from rfl, show (1 : Int) + 1 = 2 from rfl, walk_on s3 (by decide), c2, c3]
  have h := h.tick 1
  obtain ⟨d1, d2, d3⟩ := chap_step h (t := 1048) (v := 10693) (l := 3) (i := 1052) (by decide) (by decide) h.d
  have s4 : stepB (((m.tick 1).tick 1).tick 1) 1048 10693 3 = true := by simp only [stepB, d1, d2]; decide
  rw [show (enOf 68681729).a = 1048 from rfl, show (2 : Int) + 1 = 3 from rfl, walk_end s4 rfl, d2, d3, M.tick_tick, M.tick_tick, M.tick_tick]
  rfl
theorem chap_fault {m : M} (h : Chap m) : walkF 11264 4 m 1024 0 = ⟨0, 0, 1, 50, m.tick 2⟩ := by
  obtain ⟨a1, a2, a3⟩ := chap_step h (t := 1024) (v := 11264) (l := 0) (i := 1025) (by decide) (by decide) h.a
  have s1 : stepB m 1024 11264 0 = true := by simp only [stepB, a1, a2]; decide
  rw [walk_on s1 (by decide), a2, a3]
  have h := h.tick 1
  obtain ⟨b1, b2, b3⟩ := chap_step h (t := 1032) (v := 11264) (l := 1) (i := 1035) (by decide) (by decide) h.z
  have s2 : stepB (m.tick 1) 1032 11264 1 = false := by simp only [stepB, b1, b2]; decide
  rw [show (enOf 67633153).a = 1032 from rfl, show (0 : Int) + 1 = 1 from rfl, walk_stop s2, b3, M.tick_tick]
  rfl
def linesZ : List Tl.Ln := List.replicate 8 Tl.Ln.z
def linesC : List Tl.Ln := linesZ.set 0 ⟨1, 668, 2048, 1⟩
theorem chap_reach {m : M} (h : Chap m) : reachF m linesZ 1024 1 10693 false 0 = ⟨2053, 0, m.tick 4, linesC⟩ := by
  have hf : Tl.atF 1 (10693 / 16) linesZ 0 < 0 := by decide
  have e := chap_walk h
  rw [reach_walk (by decide) hf (by rw [e]), e]
  rfl
theorem chap_reach2 {m : M} : reachF m linesC 1024 1 10693 true 0 = ⟨0, 50, m, linesC⟩ := by
  rw [reach_found (by decide) (by decide)]
  rfl
theorem okT_linesC : Tl.okT linesC := Tl.okT_fill (L := linesZ) (l := ⟨1, 668, 2048, 1⟩) (at_ := 0) Tl.okT_z (by decide)
theorem okM_linesZ : okM linesZ := fun l hl => .inl (List.eq_of_mem_replicate hl)
theorem okM_set {L : List Tl.Ln} (h : okM L) {l : Tl.Ln} (hl : l = Tl.Ln.z ∨ l.may = true) (i : Nat) : okM (L.set i l) := fun x hx => by
  rcases List.mem_or_eq_of_mem_set hx with h1 | h1
  · exact h x h1
  · rw [h1]; exact hl
theorem okM_linesC : okM linesC := okM_set okM_linesZ (.inr (by decide)) 0

noncomputable def T5 : Tab := addT 23 newM (addT 32 newM (addT 14 Tl.newG (addT 66 chapterG (addT 42 laidG (addT 36 encEG (addT 37 encEG (addT 38 decEG (addT 39 decEG (addT 43 walkG (addT 45 walkG (addT 46 reachG (addT 50 reachG (addT 40 idxG (addT 41 idxG (addT 47 allowG (addT 25 stepsG (addT 26 dumpG (addT 27 load2G (addT 31 sameWG (addT 44 read2G (addT 16 Tl.evictG (addT 18 Tl.flushAsidG (addT 48 Tl.evictG (addT 49 Tl.flushAsidG (noT)))))))))))))))))))))))))
theorem T5_snd : T5.Snd Try.prog := addT_snd ok23 new_snd (addT_snd ok32 rnew_snd (addT_snd ok14 Tl.new_snd (addT_snd ok66 chapter_snd (addT_snd ok42 laid_snd (addT_snd ok36 encE_snd (addT_snd ok37 rencE_snd (addT_snd ok38 decE_snd (addT_snd ok39 rdecE_snd (addT_snd ok43 wWalk_snd (addT_snd ok45 rWalk_snd (addT_snd ok46 wReach_snd (addT_snd ok50 rReach_snd (addT_snd ok40 idx_snd (addT_snd ok41 ridx_snd (addT_snd ok47 allow_snd (addT_snd ok25 msteps_snd (addT_snd ok26 mdump_snd (addT_snd ok27 load2_snd (addT_snd ok31 sameW_snd (addT_snd ok44 rread2_snd (addT_snd ok16 Tl.evict_snd (addT_snd ok18 Tl.flushAsid_snd (addT_snd ok48 Tl.rEvict_snd (addT_snd ok49 Tl.rFlushAsid_snd ((noT_snd _))))))))))))))))))))))))))
def awake5G : List V → List Blk → Res
  | [], h => .ok (.s (.b true)) [] h
  | _, _ => .bad
theorem wdsAt_chapter (h : List Blk) (B : Blk) : WdsAt h [B, chapterB] (.sl (.g (h.length + 5)) 0 4 4) chapterL := fun A B' C D => .inr ⟨h.length + 5, 4, .rw, 28, rfl, by rw [app_getn]; rfl, fun _ e => BK.noConfusion e⟩
theorem awake5_snd : Snd Try.prog 35 (FSpec.of awake5G) := snd_cut T5_snd mixed Try.func35 dc35 400 fun args h K hc hS => by
  unfold awake5G at hS
  split at hS
  · simp only [spec_ok] at hS
    obtain ⟨z, hz⟩ : ∃ z, M.zero 12 = z := ⟨_, rfl⟩
    have ch := chap_laid hz
    obtain ⟨m, hm⟩ : ∃ m, z.laid chapterL = m := ⟨_, rfl⟩
    rw [hm] at ch
    have hl := laidG_eq (h := h) (m := z) (wdsAt_chapter h (Tl.tlbB linesZ)) (fun x hx => by
      simp only [chapterL, List.mem_cons, List.not_mem_nil, or_false] at hx
      rcases hx with rfl | rfl | rfl | rfl <;> exact ⟨by decide, by decide⟩) (by decide)
    rw [hm] at hl
    have k1 := chap_walk ch
    have k2 := chap_fault (ch.tick 4)
    have k3 := chap_reach ((ch.tick 4).tick 2)
    have k4 := @chap_reach2 (((m.tick 4).tick 2).tick 4)
    have v1 : virtB 10693 = true := by decide
    have v2 : virtB 11264 = true := by decide
    have v3 : virtB 1024 = true := by decide
    have m1 : (⟨true, false, 1032, 0⟩ : En).may = true := by decide
    have b1 : enB (⟨true, false, 1032, 0⟩ : En).w = true := by decide
    have b2 : enB 2 = false := by decide
    have b3 : u64 (⟨true, false, 1032, 0⟩ : En).w := by constructor <;> decide
    have b4 : u64 2 := by constructor <;> decide
    have i1 : idxV 10693 2 = 3 := by decide
    have lz : (List.replicate 8 Tl.Ln.z) = linesZ := rfl
    have l8 : linesZ.length = 8 := rfl
    have l9 : linesC.length = 8 := rfl
    have t1 : Tl.okT linesZ := Tl.okT_z
    have t2 := okT_linesC
    have t3 := okM_linesZ
    have t4 := okM_linesC
    simp (config := { maxSteps := 10000000 }) only [EV1, EV2, EV3, EV4, EV5, EV6, addT, istep, lenR_sl, lenR_ns, lenR_es, pickR, putD, bin1R, un1R, slcR, bnd, capsOf, fillP, S_plain, V_plain, V.cells, S_known, V_known, C.v, blk, setL, setH, eqS, eq1, cmpS, cmp1, isNil, popTo, killT, setT, leT, V.below, C.below, S_below, R.below, V.val, C.val, S_val, R.val, R.takes, vals, shows, List.any_cons, List.any_nil, unnamed, V.kill, V.names, C.names, S_names, R.names, List.set, List.replicate, ↓q_cond_t, ↓q_cond_f, if_true, if_false, reduceCtorEq, rvals, rvC, result, C_known, V.noL, C.noL, S_noL, R.noL, Option.map, true_and, and_true, ge_iff_le, gt_iff_lt, implies_true, q_ite_t, q_ite_f, beq_iff_eq, bne_iff_ne, q_ne, Nat.reduceAdd, Nat.reducePow, Int.reducePow, Nat.reduceMul, Nat.reduceSub, Nat.reduceLeDiff, Nat.reduceLT, Nat.reduceEqDiff, Int.reduceNeg, Int.reduceLT, Int.reduceLE, Int.reduceEq, Int.reduceNe, Int.reduceAdd, Int.reduceSub, Int.reduceMul, Int.reduceToNat, Int.reduceBEq, Int.reduceBNe, df35, T5, newM, hz, memH, app_len, n21, Tl.newG, ↓lz, chapterG, hl, encEG, enF, en_eta, m1, decEG, b1, b2, b3, b4, walkG, walkM, memF_0, v1, v2, v3, k1, k2, WR.v, idxG, i1, En.c, put, fillP, reachG, memAt_0, app_getn, app_setn, at0_set, Tl.isTlb_tlbB, Tl.tlbB_cells, Tl.dec_arr, l8, l9, t1, t2, t3, t4, Nat.add_left_cancel_iff, Nat.add_eq_left, k3, k4, RR.v]
    refine cast (congrArg (fun x => Cut h.length K (.s (.b x)) _) ?_) (cut_app (Nat.le_refl _) hc rfl hS)
    decide
  · exact hS.elim
end Go.Proofs.Yteeeidldknlblaa

/- Law 05: WalkEntries, WalkWalks. -/
namespace Go.Proofs.Yteeeidldknlblaa
open Go.D
set_option linter.all false
set_option maxRecDepth 100000
set_option maxHeartbeats 8000000

noncomputable def T6 : Tab := addT 35 awake5G (T5)
theorem T6_snd : T6.Snd Try.prog := addT_snd ok35 awake5_snd (T5_snd)
/-! ### entries -/
def entriesG : List V → List Blk → Res
  | [.agg [.b v, .b l, .i .i64 a, .i .i64 r, .i .u64 w, .i .i64 x, .i .i64 n]], h => .ob (u64 w) (.ok (.s (.b true)) [] h)
  | _, _ => .bad
theorem eqS_en (x : En) : eqS x.c x.c = true := by simp [En.c, eqS, eq1]
theorem entries_snd : Snd Try.prog 8 (FSpec.of entriesG) := snd_run T6_snd mixed Try.func8 dc8 400 fun args h K hc hS => by
  unfold entriesG at hS
  split at hS
  · rename_i v l a r w x n
    obtain ⟨hu, hS⟩ := hS
    simp only [spec_ok] at hS
    cases hm : (En.mk v l a r).may with
    | false =>
      cases hb : enB w with
      | false =>
        simp (config := { maxSteps := 10000000 }) only [EV1, EV2, EV3, EV4, EV5, EV6, addT, istep, lenR_sl, lenR_ns, lenR_es, pickR, putD, bin1R, un1R, slcR, bnd, capsOf, fillP, S_plain, V_plain, V.cells, S_known, V_known, C.v, blk, setL, setH, eqS, eq1, cmpS, cmp1, isNil, popTo, killT, setT, leT, V.below, C.below, S_below, R.below, V.val, C.val, S_val, R.val, R.takes, vals, shows, List.any_cons, List.any_nil, unnamed, V.kill, V.names, C.names, S_names, R.names, List.set, List.replicate, ↓q_cond_t, ↓q_cond_f, if_true, if_false, reduceCtorEq, rvals, rvC, result, C_known, V.noL, C.noL, S_noL, R.noL, Option.map, true_and, and_true, ge_iff_le, gt_iff_lt, implies_true, q_ite_t, q_ite_f, beq_iff_eq, bne_iff_ne, q_ne, Nat.reduceAdd, Nat.reducePow, Int.reducePow, Nat.reduceMul, Nat.reduceSub, Nat.reduceLeDiff, Nat.reduceLT, Nat.reduceEqDiff, Int.reduceNeg, Int.reduceLT, Int.reduceLE, Int.reduceEq, Int.reduceNe, Int.reduceAdd, Int.reduceSub, Int.reduceMul, Int.reduceToNat, Int.reduceBEq, Int.reduceBNe, df8, T6, T5, awake5G, encEG, enF, en_eta, hm, decEG, hu, hb, idxG, enZ, En.c, put, fillP, sub, List.drop_zero, List.drop_succ_cons, List.take_succ_cons, List.take_zero]
        exact hS
      | true =>
        simp (config := { maxSteps := 10000000 }) only [EV1, EV2, EV3, EV4, EV5, EV6, addT, istep, lenR_sl, lenR_ns, lenR_es, pickR, putD, bin1R, un1R, slcR, bnd, capsOf, fillP, S_plain, V_plain, V.cells, S_known, V_known, C.v, blk, setL, setH, eqS, eq1, cmpS, cmp1, isNil, popTo, killT, setT, leT, V.below, C.below, S_below, R.below, V.val, C.val, S_val, R.val, R.takes, vals, shows, List.any_cons, List.any_nil, unnamed, V.kill, V.names, C.names, S_names, R.names, List.set, List.replicate, ↓q_cond_t, ↓q_cond_f, if_true, if_false, reduceCtorEq, rvals, rvC, result, C_known, V.noL, C.noL, S_noL, R.noL, Option.map, true_and, and_true, ge_iff_le, gt_iff_lt, implies_true, q_ite_t, q_ite_f, beq_iff_eq, bne_iff_ne, q_ne, Nat.reduceAdd, Nat.reducePow, Int.reducePow, Nat.reduceMul, Nat.reduceSub, Nat.reduceLeDiff, Nat.reduceLT, Nat.reduceEqDiff, Int.reduceNeg, Int.reduceLT, Int.reduceLE, Int.reduceEq, Int.reduceNe, Int.reduceAdd, Int.reduceSub, Int.reduceMul, Int.reduceToNat, Int.reduceBEq, Int.reduceBNe, df8, T6, T5, awake5G, encEG, enF, en_eta, hm, decEG, hu, hb, idxG, En.c, put, fillP, sub, List.drop_zero, List.drop_succ_cons, List.take_succ_cons, List.take_zero]
        exact hS
    | true =>
      have hwu := (En.w_uu hm).1
      have hbk := En.back hm
      have hbb := En.backB hm
      cases hb : enB w with
      | false =>
        simp (config := { maxSteps := 10000000 }) only [EV1, EV2, EV3, EV4, EV5, EV6, addT, istep, lenR_sl, lenR_ns, lenR_es, pickR, putD, bin1R, un1R, slcR, bnd, capsOf, fillP, S_plain, V_plain, V.cells, S_known, V_known, C.v, blk, setL, setH, eqS, eq1, cmpS, cmp1, isNil, popTo, killT, setT, leT, V.below, C.below, S_below, R.below, V.val, C.val, S_val, R.val, R.takes, vals, shows, List.any_cons, List.any_nil, unnamed, V.kill, V.names, C.names, S_names, R.names, List.set, List.replicate, ↓q_cond_t, ↓q_cond_f, if_true, if_false, reduceCtorEq, rvals, rvC, result, C_known, V.noL, C.noL, S_noL, R.noL, Option.map, true_and, and_true, ge_iff_le, gt_iff_lt, implies_true, q_ite_t, q_ite_f, beq_iff_eq, bne_iff_ne, q_ne, Nat.reduceAdd, Nat.reducePow, Int.reducePow, Nat.reduceMul, Nat.reduceSub, Nat.reduceLeDiff, Nat.reduceLT, Nat.reduceEqDiff, Int.reduceNeg, Int.reduceLT, Int.reduceLE, Int.reduceEq, Int.reduceNe, Int.reduceAdd, Int.reduceSub, Int.reduceMul, Int.reduceToNat, Int.reduceBEq, Int.reduceBNe, df8, T6, T5, awake5G, encEG, enF, en_eta, hm, decEG, hu, hb, hwu, hbk, hbb, idxG, enZ, En.c, put, fillP, sub, List.drop_zero, List.drop_succ_cons, List.take_succ_cons, List.take_zero]
        exact hS
      | true =>
        simp (config := { maxSteps := 10000000 }) only [EV1, EV2, EV3, EV4, EV5, EV6, addT, istep, lenR_sl, lenR_ns, lenR_es, pickR, putD, bin1R, un1R, slcR, bnd, capsOf, fillP, S_plain, V_plain, V.cells, S_known, V_known, C.v, blk, setL, setH, eqS, eq1, cmpS, cmp1, isNil, popTo, killT, setT, leT, V.below, C.below, S_below, R.below, V.val, C.val, S_val, R.val, R.takes, vals, shows, List.any_cons, List.any_nil, unnamed, V.kill, V.names, C.names, S_names, R.names, List.set, List.replicate, ↓q_cond_t, ↓q_cond_f, if_true, if_false, reduceCtorEq, rvals, rvC, result, C_known, V.noL, C.noL, S_noL, R.noL, Option.map, true_and, and_true, ge_iff_le, gt_iff_lt, implies_true, q_ite_t, q_ite_f, beq_iff_eq, bne_iff_ne, q_ne, Nat.reduceAdd, Nat.reducePow, Int.reducePow, Nat.reduceMul, Nat.reduceSub, Nat.reduceLeDiff, Nat.reduceLT, Nat.reduceEqDiff, Int.reduceNeg, Int.reduceLT, Int.reduceLE, Int.reduceEq, Int.reduceNe, Int.reduceAdd, Int.reduceSub, Int.reduceMul, Int.reduceToNat, Int.reduceBEq, Int.reduceBNe, df8, T6, T5, awake5G, encEG, enF, en_eta, hm, decEG, hu, hb, hwu, hbk, hbb, idxG, En.c, put, fillP, sub, List.drop_zero, List.drop_succ_cons, List.take_succ_cons, List.take_zero]
        exact hS
  · exact hS.elim

/-! ### walks -/
theorem M.readX_w (m : M) (i : Int) : (m.readX i).w = m.w := by
  unfold M.readX; split <;> rfl
theorem walkF_w (v : Int) : ∀ (n : Nat) (m : M) (t l : Int), (walkF v n m t l).m.w = m.w
  | 0, m, t, l => rfl
  | n + 1, m, t, l => by
    rw [walkF]
    split
    · split
      · exact m.readX_w _
      · rw [walkF_w v n, M.readX_w]
    · exact m.readX_w _
theorem walkF_n (v : Int) : ∀ (n : Nat) (m : M) (t l : Int), ∃ k : Nat, k ≤ n ∧ (walkF v n m t l).m.n = IntKind.i64.wrap (m.n + k) ∨ (walkF v n m t l).m.n = m.n
  | 0, m, t, l => ⟨0, .inr rfl⟩
  | n + 1, m, t, l => by
    have hX : ∀ i, (m.readX i).n = IntKind.i64.wrap (m.n + 1) ∨ (m.readX i).n = m.n := fun i => by
      unfold M.readX; split
      · exact .inl rfl
      · exact .inr rfl
    rw [walkF]
    split
    · split
      · rcases hX (atW t v l) with e | e
        · exact ⟨1, .inl ⟨by omega, e⟩⟩
        · exact ⟨0, .inr e⟩
      · obtain ⟨k, hk⟩ := walkF_n v n (m.readX (atW t v l)) (enOf (m.readV (atW t v l))).a (l + 1)
        rcases hk with ⟨h1, h2⟩ | h2
        · rcases hX (atW t v l) with e | e
          · refine ⟨k + 1, .inl ⟨by omega, ?_⟩⟩
            rw [h2, e, wrap_add]; congr 1; omega
          · exact ⟨k, .inl ⟨by omega, by rw [h2, e]⟩⟩
        · rcases hX (atW t v l) with e | e
          · exact ⟨1, .inl ⟨by omega, by rw [h2, e]; rfl⟩⟩
          · exact ⟨0, .inr (by rw [h2, e])⟩
    · rcases hX (atW t v l) with e | e
      · exact ⟨1, .inl ⟨by omega, e⟩⟩
      · exact ⟨0, .inr e⟩
theorem M.laid1_n (m : M) (x : Wd) : (m.laid1 x).n = m.n := by
  unfold M.laid1; split
  · exact M.loadX_n _ _ _
  · rfl
theorem M.laid_n : ∀ (L : List Wd) (m : M), (m.laid L).n = m.n
  | [], _ => rfl
  | x :: L, m => by rw [M.laid, M.laid_n L, M.laid1_n]
theorem walk_steps {v t : Int} {m : M} (h : m.n = 0) : decide ((walkF v 4 m t 0).m.n ≤ 4) = true := by
  obtain ⟨k, ⟨h1, h2⟩ | h2⟩ := walkF_n v 4 m t 0
  · rw [h2, h, decide_eq_true_eq, wrap64] <;> omega
  · rw [h2, h]; decide
/-- A slice of words to be laid. -/
theorem WdsAt.of {h : List Blk} {s : S} {L : List Wd} (H : IsArr Wd.c h s L) (X : List Blk) : WdsAt h X s L := fun A B C D => H.app
def walksS : FSpec := fun args h K => ∃ s L t v, args = [.s s, .s (.i .i64 t), .s (.i .i64 v)] ∧ IsArr Wd.c h s L ∧ (∀ x, x ∈ L → u64 x.w) ∧ L.length ≤ 140737488355328 ∧ ∀ h', K (.s (.b true)) h'
theorem walks_snd : Snd Try.prog 10 walksS := (fwp_sound (Tab.snd_Γ T6_snd) mixed Try.func10 dc10).weaken fun args h K hc hS => by
  obtain ⟨s, L, t, v, rfl, Hs, hu, hn, hK⟩ := hS
  refine fwp_run (Tab.ok_Γ _) 600 ?_
  have hlen := fun ls h' => Hs.sl.len (ls := ls) (h := h')
  have hkn := Hs.sl.known
  have hnl := Hs.sl.noL
  by_cases c0 : (2147483647 : Int) < L.length
  · simp (config := { maxSteps := 10000000 }) only [EV1, EV2, EV3, EV4, EV5, EV6, addT, istep, lenR_sl, lenR_ns, lenR_es, pickR, putD, bin1R, un1R, slcR, bnd, capsOf, fillP, S_plain, V_plain, V.cells, S_known, V_known, C.v, blk, setL, setH, eqS, eq1, cmpS, cmp1, isNil, popTo, killT, setT, leT, V.below, C.below, S_below, R.below, V.val, C.val, S_val, R.val, R.takes, vals, shows, List.any_cons, List.any_nil, unnamed, V.kill, V.names, C.names, S_names, R.names, List.set, List.replicate, ↓q_cond_t, ↓q_cond_f, if_true, if_false, reduceCtorEq, rvals, rvC, result, C_known, V.noL, C.noL, S_noL, R.noL, Option.map, true_and, and_true, ge_iff_le, gt_iff_lt, implies_true, q_ite_t, q_ite_f, beq_iff_eq, bne_iff_ne, q_ne, Nat.reduceAdd, Nat.reducePow, Int.reducePow, Nat.reduceMul, Nat.reduceSub, Nat.reduceLeDiff, Nat.reduceLT, Nat.reduceEqDiff, Int.reduceNeg, Int.reduceLT, Int.reduceLE, Int.reduceEq, Int.reduceNe, Int.reduceAdd, Int.reduceSub, Int.reduceMul, Int.reduceToNat, Int.reduceBEq, Int.reduceBNe, df10, ↓hlen, c0]
    exact hK _
  obtain ⟨z, hz⟩ : ∃ z, M.zero 12 = z := ⟨_, rfl⟩
  have l0 : z.w.length = 4096 := by rw [← hz]; exact M.zero_len 12
  have z0 : z.n = 0 := by rw [← hz]; rfl
  have hl := fun X => laidG_eq (h := h) (m := z) (WdsAt.of Hs X) hu hn
  have lm := M.laid_len L z
  have nm := M.laid_n L z
  obtain ⟨m, hm⟩ : ∃ m, z.laid L = m := ⟨_, rfl⟩
  rw [hm, l0] at lm
  rw [hm, z0] at nm
  simp only [hm] at hl
  cases hv : (virtB v && virtB t) with
  | false =>
    have hd : m.has 0 4096 = true := M.has_of (by omega)
    have wl := take_all lm
    have hb : m.w.length ≤ 8796093022208 := by omega
    simp (config := { maxSteps := 10000000 }) only [EV1, EV2, EV3, EV4, EV5, EV6, addT, istep, lenR_sl, lenR_ns, lenR_es, pickR, putD, bin1R, un1R, slcR, bnd, capsOf, fillP, S_plain, V_plain, V.cells, S_known, V_known, C.v, blk, setL, setH, eqS, eq1, cmpS, cmp1, isNil, popTo, killT, setT, leT, V.below, C.below, S_below, R.below, V.val, C.val, S_val, R.val, R.takes, vals, shows, List.any_cons, List.any_nil, unnamed, V.kill, V.names, C.names, S_names, R.names, List.set, List.replicate, ↓q_cond_t, ↓q_cond_f, if_true, if_false, reduceCtorEq, rvals, rvC, result, C_known, V.noL, C.noL, S_noL, R.noL, Option.map, true_and, and_true, ge_iff_le, gt_iff_lt, implies_true, q_ite_t, q_ite_f, beq_iff_eq, bne_iff_ne, q_ne, Nat.reduceAdd, Nat.reducePow, Int.reducePow, Nat.reduceMul, Nat.reduceSub, Nat.reduceLeDiff, Nat.reduceLT, Nat.reduceEqDiff, Int.reduceNeg, Int.reduceLT, Int.reduceLE, Int.reduceEq, Int.reduceNe, Int.reduceAdd, Int.reduceSub, Int.reduceMul, Int.reduceToNat, Int.reduceBEq, Int.reduceBNe, df10, ↓hlen, c0, T6, T5, awake5G, newM, hz, memH, app_len, n21, hl, hkn, hnl, walkG, walkM, memF_0, memF_2, hv, WR.v, dumpG, dumpM, hd, wl, List.drop_zero]
    intro c hc1
    simp (config := { maxSteps := 10000000 }) only [EV1, EV2, EV3, EV4, EV5, EV6, addT, istep, lenR_sl, lenR_ns, lenR_es, pickR, putD, bin1R, un1R, slcR, bnd, capsOf, fillP, S_plain, V_plain, V.cells, S_known, V_known, C.v, blk, setL, setH, eqS, eq1, cmpS, cmp1, isNil, popTo, killT, setT, leT, V.below, C.below, S_below, R.below, V.val, C.val, S_val, R.val, R.takes, vals, shows, List.any_cons, List.any_nil, unnamed, V.kill, V.names, C.names, S_names, R.names, List.set, List.replicate, ↓q_cond_t, ↓q_cond_f, if_true, if_false, reduceCtorEq, rvals, rvC, result, C_known, V.noL, C.noL, S_noL, R.noL, Option.map, true_and, and_true, ge_iff_le, gt_iff_lt, implies_true, q_ite_t, q_ite_f, beq_iff_eq, bne_iff_ne, q_ne, Nat.reduceAdd, Nat.reducePow, Int.reducePow, Nat.reduceMul, Nat.reduceSub, Nat.reduceLeDiff, Nat.reduceLT, Nat.reduceEqDiff, Int.reduceNeg, Int.reduceLT, Int.reduceLE, Int.reduceEq, Int.reduceNe, Int.reduceAdd, Int.reduceSub, Int.reduceMul, Int.reduceToNat, Int.reduceBEq, Int.reduceBNe, T6, T5, memF_0, memF_2, sameWG, wl, MB_0, MB_1, MB_st, lstB_MW, listOf_g, app_getn, lstB_rw, unwc_wc, o_bind, lenIs_t, lm, some_is, hb, stepsG, stepsM, nm]
    exact hK _
  | true =>
    have hw := walkF_w v 4 m t 0
    have hs := walk_steps (v := v) (t := t) nm
    obtain ⟨x, hx⟩ : ∃ x, walkF v 4 m t 0 = x := ⟨_, rfl⟩
    rw [hx] at hw hs
    have lx : x.m.w.length = 4096 := by rw [hw, lm]
    have hd : x.m.has 0 4096 = true := M.has_of (by omega)
    have wl := take_all lx
    have hb : x.m.w.length ≤ 8796093022208 := by omega
    simp (config := { maxSteps := 10000000 }) only [EV1, EV2, EV3, EV4, EV5, EV6, addT, istep, lenR_sl, lenR_ns, lenR_es, pickR, putD, bin1R, un1R, slcR, bnd, capsOf, fillP, S_plain, V_plain, V.cells, S_known, V_known, C.v, blk, setL, setH, eqS, eq1, cmpS, cmp1, isNil, popTo, killT, setT, leT, V.below, C.below, S_below, R.below, V.val, C.val, S_val, R.val, R.takes, vals, shows, List.any_cons, List.any_nil, unnamed, V.kill, V.names, C.names, S_names, R.names, List.set, List.replicate, ↓q_cond_t, ↓q_cond_f, if_true, if_false, reduceCtorEq, rvals, rvC, result, C_known, V.noL, C.noL, S_noL, R.noL, Option.map, true_and, and_true, ge_iff_le, gt_iff_lt, implies_true, q_ite_t, q_ite_f, beq_iff_eq, bne_iff_ne, q_ne, Nat.reduceAdd, Nat.reducePow, Int.reducePow, Nat.reduceMul, Nat.reduceSub, Nat.reduceLeDiff, Nat.reduceLT, Nat.reduceEqDiff, Int.reduceNeg, Int.reduceLT, Int.reduceLE, Int.reduceEq, Int.reduceNe, Int.reduceAdd, Int.reduceSub, Int.reduceMul, Int.reduceToNat, Int.reduceBEq, Int.reduceBNe, df10, ↓hlen, c0, T6, T5, awake5G, newM, hz, memH, app_len, n21, hl, hkn, hnl, walkG, walkM, memF_0, memF_2, hv, hx, WR.v, dumpG, dumpM, hd, wl, List.drop_zero]
    intro c hc1
    simp (config := { maxSteps := 10000000 }) only [EV1, EV2, EV3, EV4, EV5, EV6, addT, istep, lenR_sl, lenR_ns, lenR_es, pickR, putD, bin1R, un1R, slcR, bnd, capsOf, fillP, S_plain, V_plain, V.cells, S_known, V_known, C.v, blk, setL, setH, eqS, eq1, cmpS, cmp1, isNil, popTo, killT, setT, leT, V.below, C.below, S_below, R.below, V.val, C.val, S_val, R.val, R.takes, vals, shows, List.any_cons, List.any_nil, unnamed, V.kill, V.names, C.names, S_names, R.names, List.set, List.replicate, ↓q_cond_t, ↓q_cond_f, if_true, if_false, reduceCtorEq, rvals, rvC, result, C_known, V.noL, C.noL, S_noL, R.noL, Option.map, true_and, and_true, ge_iff_le, gt_iff_lt, implies_true, q_ite_t, q_ite_f, beq_iff_eq, bne_iff_ne, q_ne, Nat.reduceAdd, Nat.reducePow, Int.reducePow, Nat.reduceMul, Nat.reduceSub, Nat.reduceLeDiff, Nat.reduceLT, Nat.reduceEqDiff, Int.reduceNeg, Int.reduceLT, Int.reduceLE, Int.reduceEq, Int.reduceNe, Int.reduceAdd, Int.reduceSub, Int.reduceMul, Int.reduceToNat, Int.reduceBEq, Int.reduceBNe, T6, T5, memF_0, memF_2, sameWG, wl, MB_0, MB_1, MB_st, lstB_MW, listOf_g, app_getn, lstB_rw, unwc_wc, o_bind, lenIs_t, lx, some_is, hb, stepsG, stepsM, hs]
    exact hK _
end Go.Proofs.Yteeeidldknlblaa

