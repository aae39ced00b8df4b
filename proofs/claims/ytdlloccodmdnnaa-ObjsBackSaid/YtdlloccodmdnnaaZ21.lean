/- Package walk: entries, indices. -/
import Derived.Test.YtdlloccodmdnnaaZ10
import Derived.Test.YtdlloccodmdnnaaZ20
import Derived.Test.YtdlloccodmdnnaaZ16
/- Package objs: notes, the code's. -/
namespace Go.Proofs.Ytdlloccodmdnnaa
open Go.D
set_option linter.all false
set_option maxRecDepth 100000
set_option maxHeartbeats 8000000

theorem un2_B {w : Int} (hw : u64 w) : unpackB w [28, 16] 0 = decide (w < 17592186044416) := by
  obtain ⟨n, rfl, _⟩ := hw.nat
  simp only [unpackB, fieldB, Int.reduceAdd, Int.reduceSub, Int.reduceLE, Int.reduceToNat, Int.toNat_natCast, Nat.reducePow, and_true, decide_true, Bool.true_and]
  rw [Bool.eq_iff_iff]; simp only [decide_eq_true_eq]; omega
theorem un2_V {w : Int} (hw : u64 w) : (unpackV w [28, 16] 0).map IntKind.i64.wrap = [w % 268435456, w / 268435456 % 65536] := by
  obtain ⟨n, rfl, _⟩ := hw.nat
  simp only [unpackV, getV, Int.reduceAdd, Int.reduceToNat, Int.toNat_natCast, Nat.reducePow, Nat.div_one, List.map_cons, List.map_nil]
  rw [wrap64 (by omega) (by omega), wrap64 (by omega) (by omega)]
  simp only [List.cons.injEq, and_true]
  omega
theorem un2_t {w : Int} (hw : u64 w) (h : w < 17592186044416) : ounV w [28, 16] = [w % 268435456, w / 268435456 % 65536] := by
  rw [ounV, un2_B hw, if_pos (by simpa using h), un2_V hw]
theorem un2_f {w : Int} (hw : u64 w) (h : ¬ w < 17592186044416) : ounV w [28, 16] = [0, 0] := by
  rw [ounV, un2_B hw, if_neg (by simpa using h)]; rfl
theorem ic2 {a b : Int} : ic [a, b] = [.i .i64 a, .i .i64 b] := rfl
theorem sget_snd : Snd Try.prog 35 (FSpec.of sgetG) := snd_run ToS_snd mixed Try.func35 dc35 300 fun args h K hc hS => by
  obtain ⟨a, b, m, rest, rfl, H, hS1⟩ := memF_spec hS
  clear hS
  have hS := hS1
  clear hS1
  unfold sgetM at hS
  split at hS
  · rename_i x
    simp only [spec_ok, M.sgE, M.sgV, M.sgX] at hS
    have n4 : (0 : Int) < 8 ∧ (8 : Int) ≤ 64 := by decide
    cases ht : otB m x 8 with
    | false =>
      simp only [ht, Bool.false_and, Bool.false_eq_true, if_false, setM_self H, siZ, Si.cl] at hS
      simp (config := { maxSteps := 10000000 }) only [run_drx, run_xd, run_xq, run_xg, run_xb, EV1, EV2, EV3, EV4, EV5, EV6, addT, istep, lenR_sl, lenR_ns, lenR_es, pickR, putD, bin1R, un1R, slcR, bnd, capsOf, fillP, S_plain, V_plain, V.cells, S_known, V_known, C.v, blk, setL, setH, eqS, eq1, cmpS, cmp1, isNil, popTo, killT, setT, leT, V.below, C.below, S_below, R.below, V.val, C.val, S_val, R.val, R.takes, vals, shows, List.any_cons, List.any_nil, unnamed, V.kill, V.names, C.names, S_names, R.names, List.set, List.replicate, ↓q_cond_t, ↓q_cond_f, if_true, if_false, reduceCtorEq, rvals, rvC, result, C_known, V.noL, C.noL, S_noL, R.noL, Option.map, true_and, and_true, ge_iff_le, gt_iff_lt, implies_true, q_ite_t, q_ite_f, beq_iff_eq, bne_iff_ne, q_ne, Nat.reduceAdd, Nat.reducePow, Int.reducePow, Nat.reduceMul, Nat.reduceSub, Nat.reduceLeDiff, Nat.reduceLT, Nat.reduceEqDiff, Int.reduceNeg, Int.reduceLT, Int.reduceLE, Int.reduceEq, Int.reduceNe, Int.reduceAdd, Int.reduceSub, Int.reduceMul, Int.reduceToNat, Int.reduceBEq, Int.reduceBNe, df35, ToS, otG, memF_eq H, memF_set H, otM, n4, setM_self H, ht, put, fillP, sub, List.take_succ_cons, List.take_zero, List.drop_zero]
      exact hS
    | true =>
      simp only [ht, Bool.true_and, if_true] at hS
      have hb := otB_iff.1 ht
      have hl := m.l
      have h0 : m.has x 1 = true := M.has_of (by omega)
      have h1 : m.has (x + 1) 1 = true := M.has_of (by omega)
      have x1 : IntKind.i64.wrap (x + 1) = x + 1 := wrap64 (by omega) (by omega)
      have hu := m.at_u x
      have hv := m.at_u (x + 1)
      have hcm : ∀ m', clean (setM h a b m').length (setM h a b m') = true := fun m' => by rw [setM_len]; exact setM_clean H hc H.ltb
      obtain ⟨w, hw⟩ : ∃ w, m.at x = w := ⟨_, rfl⟩
      obtain ⟨v, hvv⟩ : ∃ v, m.at (x + 1) = v := ⟨_, rfl⟩
      rw [hw] at hu hS
      rw [hvv] at hv hS
      have hA : ∀ (hh : List Blk) (r : Blk) (room : Nat), arrOf In.c (hh ++ [r, ⟨.rw, [.i .i64 2, .i .i64 16, .i .i64 16], room⟩]) (.sl (.g (hh.length + 1)) 0 3 3) = some [2, 16, 16] := fun hh r room => arr_lent (L := [2, 16, 16]) rfl rfl (by decide)
      have hA2 : ∀ (hh : List Blk) (r r2 r3 : Blk) (room : Nat), arrOf In.c (hh ++ [r, r2, r3, ⟨.rw, [.i .i64 28, .i .i64 16], room⟩]) (.sl (.g (hh.length + 3)) 0 2 2) = some [28, 16] := fun hh r r2 r3 room => arr_lent (L := [28, 16]) rfl rfl (by decide)
      have hB := un3_B hu
      have hB2 := un2_B hv
      by_cases hlt : w < 17179869184
      · have hV := un3_t hu hlt
        by_cases hl2 : v < 17592186044416
        · have hV2 := un2_t hv hl2
          have hC := siOf_C hu hv
          cases hq : (siOf w v).B with
          | false =>
            have hk : siOk w v = false := by simp only [siOk, hq, Bool.and_false]
            rw [hq] at hC
            simp only [hk, Bool.false_eq_true, if_false, siZ, Si.cl] at hS
            simp only [siOf] at hC
            simp (config := { maxSteps := 10000000 }) only [run_drx, run_xd, run_xq, run_xg, run_xb, EV1, EV2, EV3, EV4, EV5, EV6, addT, istep, lenR_sl, lenR_ns, lenR_es, pickR, putD, bin1R, un1R, slcR, bnd, capsOf, fillP, S_plain, V_plain, V.cells, S_known, V_known, C.v, blk, setL, setH, eqS, eq1, cmpS, cmp1, isNil, popTo, killT, setT, leT, V.below, C.below, S_below, R.below, V.val, C.val, S_val, R.val, R.takes, vals, shows, List.any_cons, List.any_nil, unnamed, V.kill, V.names, C.names, S_names, R.names, List.set, List.replicate, ↓q_cond_t, ↓q_cond_f, if_true, if_false, reduceCtorEq, rvals, rvC, result, C_known, V.noL, C.noL, S_noL, R.noL, Option.map, true_and, and_true, ge_iff_le, gt_iff_lt, implies_true, q_ite_t, q_ite_f, beq_iff_eq, bne_iff_ne, q_ne, Nat.reduceAdd, Nat.reducePow, Int.reducePow, Nat.reduceMul, Nat.reduceSub, Nat.reduceLeDiff, Nat.reduceLT, Nat.reduceEqDiff, Int.reduceNeg, Int.reduceLT, Int.reduceLE, Int.reduceEq, Int.reduceNe, Int.reduceAdd, Int.reduceSub, Int.reduceMul, Int.reduceToNat, Int.reduceBEq, Int.reduceBNe, df35, ToS, otG, memF_eq H, memF_set H, otM, n4, setM_self H, ht, readG, readM, h0, h1, x1, M.tick_has, M.at_tick, hw, hvv, ounpG, R.lend, R.unlend, S_ren, C.ren, V.ren, app_taken, app_dropn, app_take0, app_drop0, List.take_succ_cons, List.take_zero, List.drop_succ_cons, List.drop_zero, Nat.not_lt_zero, Nat.lt_irrefl, Nat.add_sub_cancel_left, Nat.not_lt, Nat.le_add_right, nnn, nl0, app_len, hA, hA2, hu, hv, hB, hB2, hlt, hl2, hV, hV2, ic3, ic2, hcm, siCG, siF, hC, Blk.ren, List.map_cons, List.map_nil, put, fillP, sub, List.take_succ_cons, List.take_zero, List.drop_zero]
            exact hS
          | true =>
            have hk : siOk w v = true := by simp only [siOk, hq, hlt, hl2, Bool.and_true, decide_true]
            rw [hq] at hC
            simp only [hk, if_true, siOf, Si.cl] at hS
            simp only [siOf] at hC
            simp (config := { maxSteps := 10000000 }) only [run_drx, run_xd, run_xq, run_xg, run_xb, EV1, EV2, EV3, EV4, EV5, EV6, addT, istep, lenR_sl, lenR_ns, lenR_es, pickR, putD, bin1R, un1R, slcR, bnd, capsOf, fillP, S_plain, V_plain, V.cells, S_known, V_known, C.v, blk, setL, setH, eqS, eq1, cmpS, cmp1, isNil, popTo, killT, setT, leT, V.below, C.below, S_below, R.below, V.val, C.val, S_val, R.val, R.takes, vals, shows, List.any_cons, List.any_nil, unnamed, V.kill, V.names, C.names, S_names, R.names, List.set, List.replicate, ↓q_cond_t, ↓q_cond_f, if_true, if_false, reduceCtorEq, rvals, rvC, result, C_known, V.noL, C.noL, S_noL, R.noL, Option.map, true_and, and_true, ge_iff_le, gt_iff_lt, implies_true, q_ite_t, q_ite_f, beq_iff_eq, bne_iff_ne, q_ne, Nat.reduceAdd, Nat.reducePow, Int.reducePow, Nat.reduceMul, Nat.reduceSub, Nat.reduceLeDiff, Nat.reduceLT, Nat.reduceEqDiff, Int.reduceNeg, Int.reduceLT, Int.reduceLE, Int.reduceEq, Int.reduceNe, Int.reduceAdd, Int.reduceSub, Int.reduceMul, Int.reduceToNat, Int.reduceBEq, Int.reduceBNe, df35, ToS, otG, memF_eq H, memF_set H, otM, n4, setM_self H, ht, readG, readM, h0, h1, x1, M.tick_has, M.at_tick, hw, hvv, ounpG, R.lend, R.unlend, S_ren, C.ren, V.ren, app_taken, app_dropn, app_take0, app_drop0, List.take_succ_cons, List.take_zero, List.drop_succ_cons, List.drop_zero, Nat.not_lt_zero, Nat.lt_irrefl, Nat.add_sub_cancel_left, Nat.not_lt, Nat.le_add_right, nnn, nl0, app_len, hA, hA2, hu, hv, hB, hB2, hlt, hl2, hV, hV2, ic3, ic2, hcm, siCG, siF, hC, Blk.ren, List.map_cons, List.map_nil, put, fillP, sub, List.take_succ_cons, List.take_zero, List.drop_zero]
            exact hS
        · have hV2 := un2_f hv hl2
          have hk : siOk w v = false := by simp only [siOk, hlt, hl2, decide_false, Bool.false_and, Bool.and_false]
          simp only [hk, Bool.false_eq_true, if_false, siZ, Si.cl] at hS
          simp (config := { maxSteps := 10000000 }) only [run_drx, run_xd, run_xq, run_xg, run_xb, EV1, EV2, EV3, EV4, EV5, EV6, addT, istep, lenR_sl, lenR_ns, lenR_es, pickR, putD, bin1R, un1R, slcR, bnd, capsOf, fillP, S_plain, V_plain, V.cells, S_known, V_known, C.v, blk, setL, setH, eqS, eq1, cmpS, cmp1, isNil, popTo, killT, setT, leT, V.below, C.below, S_below, R.below, V.val, C.val, S_val, R.val, R.takes, vals, shows, List.any_cons, List.any_nil, unnamed, V.kill, V.names, C.names, S_names, R.names, List.set, List.replicate, ↓q_cond_t, ↓q_cond_f, if_true, if_false, reduceCtorEq, rvals, rvC, result, C_known, V.noL, C.noL, S_noL, R.noL, Option.map, true_and, and_true, ge_iff_le, gt_iff_lt, implies_true, q_ite_t, q_ite_f, beq_iff_eq, bne_iff_ne, q_ne, Nat.reduceAdd, Nat.reducePow, Int.reducePow, Nat.reduceMul, Nat.reduceSub, Nat.reduceLeDiff, Nat.reduceLT, Nat.reduceEqDiff, Int.reduceNeg, Int.reduceLT, Int.reduceLE, Int.reduceEq, Int.reduceNe, Int.reduceAdd, Int.reduceSub, Int.reduceMul, Int.reduceToNat, Int.reduceBEq, Int.reduceBNe, df35, ToS, otG, memF_eq H, memF_set H, otM, n4, setM_self H, ht, readG, readM, h0, h1, x1, M.tick_has, M.at_tick, hw, hvv, ounpG, R.lend, R.unlend, S_ren, C.ren, V.ren, app_taken, app_dropn, app_take0, app_drop0, List.take_succ_cons, List.take_zero, List.drop_succ_cons, List.drop_zero, Nat.not_lt_zero, Nat.lt_irrefl, Nat.add_sub_cancel_left, Nat.not_lt, Nat.le_add_right, nnn, nl0, app_len, hA, hA2, hu, hv, hB, hB2, hlt, hl2, hV, hV2, ic3, ic2, hcm, Blk.ren, List.map_cons, List.map_nil, put, fillP, sub, List.take_succ_cons, List.take_zero, List.drop_zero]
          exact hS
      · have hV := un3_f hu hlt
        have hk : siOk w v = false := by simp only [siOk, hlt, decide_false, Bool.false_and]
        simp only [hk, Bool.false_eq_true, if_false, siZ, Si.cl] at hS
        by_cases hl2 : v < 17592186044416
        · have hV2 := un2_t hv hl2
          simp (config := { maxSteps := 10000000 }) only [run_drx, run_xd, run_xq, run_xg, run_xb, EV1, EV2, EV3, EV4, EV5, EV6, addT, istep, lenR_sl, lenR_ns, lenR_es, pickR, putD, bin1R, un1R, slcR, bnd, capsOf, fillP, S_plain, V_plain, V.cells, S_known, V_known, C.v, blk, setL, setH, eqS, eq1, cmpS, cmp1, isNil, popTo, killT, setT, leT, V.below, C.below, S_below, R.below, V.val, C.val, S_val, R.val, R.takes, vals, shows, List.any_cons, List.any_nil, unnamed, V.kill, V.names, C.names, S_names, R.names, List.set, List.replicate, ↓q_cond_t, ↓q_cond_f, if_true, if_false, reduceCtorEq, rvals, rvC, result, C_known, V.noL, C.noL, S_noL, R.noL, Option.map, true_and, and_true, ge_iff_le, gt_iff_lt, implies_true, q_ite_t, q_ite_f, beq_iff_eq, bne_iff_ne, q_ne, Nat.reduceAdd, Nat.reducePow, Int.reducePow, Nat.reduceMul, Nat.reduceSub, Nat.reduceLeDiff, Nat.reduceLT, Nat.reduceEqDiff, Int.reduceNeg, Int.reduceLT, Int.reduceLE, Int.reduceEq, Int.reduceNe, Int.reduceAdd, Int.reduceSub, Int.reduceMul, Int.reduceToNat, Int.reduceBEq, Int.reduceBNe, df35, ToS, otG, memF_eq H, memF_set H, otM, n4, setM_self H, ht, readG, readM, h0, h1, x1, M.tick_has, M.at_tick, hw, hvv, ounpG, R.lend, R.unlend, S_ren, C.ren, V.ren, app_taken, app_dropn, app_take0, app_drop0, List.take_succ_cons, List.take_zero, List.drop_succ_cons, List.drop_zero, Nat.not_lt_zero, Nat.lt_irrefl, Nat.add_sub_cancel_left, Nat.not_lt, Nat.le_add_right, nnn, nl0, app_len, hA, hA2, hu, hv, hB, hB2, hlt, hl2, hV, hV2, ic3, ic2, hcm, Blk.ren, List.map_cons, List.map_nil, put, fillP, sub, List.take_succ_cons, List.take_zero, List.drop_zero]
          exact hS
        · have hV2 := un2_f hv hl2
          simp (config := { maxSteps := 10000000 }) only [run_drx, run_xd, run_xq, run_xg, run_xb, EV1, EV2, EV3, EV4, EV5, EV6, addT, istep, lenR_sl, lenR_ns, lenR_es, pickR, putD, bin1R, un1R, slcR, bnd, capsOf, fillP, S_plain, V_plain, V.cells, S_known, V_known, C.v, blk, setL, setH, eqS, eq1, cmpS, cmp1, isNil, popTo, killT, setT, leT, V.below, C.below, S_below, R.below, V.val, C.val, S_val, R.val, R.takes, vals, shows, List.any_cons, List.any_nil, unnamed, V.kill, V.names, C.names, S_names, R.names, List.set, List.replicate, ↓q_cond_t, ↓q_cond_f, if_true, if_false, reduceCtorEq, rvals, rvC, result, C_known, V.noL, C.noL, S_noL, R.noL, Option.map, true_and, and_true, ge_iff_le, gt_iff_lt, implies_true, q_ite_t, q_ite_f, beq_iff_eq, bne_iff_ne, q_ne, Nat.reduceAdd, Nat.reducePow, Int.reducePow, Nat.reduceMul, Nat.reduceSub, Nat.reduceLeDiff, Nat.reduceLT, Nat.reduceEqDiff, Int.reduceNeg, Int.reduceLT, Int.reduceLE, Int.reduceEq, Int.reduceNe, Int.reduceAdd, Int.reduceSub, Int.reduceMul, Int.reduceToNat, Int.reduceBEq, Int.reduceBNe, df35, ToS, otG, memF_eq H, memF_set H, otM, n4, setM_self H, ht, readG, readM, h0, h1, x1, M.tick_has, M.at_tick, hw, hvv, ounpG, R.lend, R.unlend, S_ren, C.ren, V.ren, app_taken, app_dropn, app_take0, app_drop0, List.take_succ_cons, List.take_zero, List.drop_succ_cons, List.drop_zero, Nat.not_lt_zero, Nat.lt_irrefl, Nat.add_sub_cancel_left, Nat.not_lt, Nat.le_add_right, nnn, nl0, app_len, hA, hA2, hu, hv, hB, hB2, hlt, hl2, hV, hV2, ic3, ic2, hcm, Blk.ren, List.map_cons, List.map_nil, put, fillP, sub, List.take_succ_cons, List.take_zero, List.drop_zero]
          exact hS
  · exact hS.elim

/-! ### SetSignal -/
theorem pk2_B {s a : Int} (h : 0 ≤ s ∧ 0 ≤ a) (u : sml s ∧ sml a) : opB [⟨28, s⟩, ⟨16, a⟩] = decide (s < 268435456 ∧ a < 65536) := by
  rw [opB_of (by intro f hf; simp only [List.mem_cons, List.not_mem_nil, or_false] at hf; rcases hf with rfl | rfl <;> simp only <;> omega)]
  simp only [List.map_cons, List.map_nil, fd_eq ⟨h.1, u.1⟩, fd_eq ⟨h.2, u.2⟩]
  rw [Bool.eq_iff_iff]
  simp only [packB_cons, packB_nil, Int.reduceAdd, Int.reduceSub, Int.reduceLE, Int.reduceToNat, Nat.reducePow, and_true, true_and, decide_eq_true_eq]
  omega
theorem pk2_V {s a : Int} (h : 0 ≤ s ∧ 0 ≤ a) (u : sml s ∧ sml a) (hB : opB [⟨28, s⟩, ⟨16, a⟩] = true) : opV [⟨28, s⟩, ⟨16, a⟩] = s + 268435456 * a := by
  rw [opV, if_pos hB]
  simp only [List.map_cons, List.map_nil, fd_eq ⟨h.1, u.1⟩, fd_eq ⟨h.2, u.2⟩]
  rw [pk2_B h u] at hB
  simp only [decide_eq_true_eq] at hB
  simp only [packV, Int.reduceAdd, Int.reduceToNat, Nat.reducePow]
  omega
theorem pk3_neg {s a b : Int} (h : ¬ (0 ≤ s ∧ 0 ≤ a ∧ 0 ≤ b)) : opB [⟨2, s⟩, ⟨16, a⟩, ⟨16, b⟩] = false := by
  by_cases n1 : s < 0
  · exact opB_neg (f := ⟨2, s⟩) (by simp) n1
  · by_cases n2 : a < 0
    · exact opB_neg (f := ⟨16, a⟩) (by simp) n2
    · exact opB_neg (f := ⟨16, b⟩) (by simp) (show b < 0 by omega)
theorem pk2_neg {s a : Int} (h : ¬ (0 ≤ s ∧ 0 ≤ a)) : opB [⟨28, s⟩, ⟨16, a⟩] = false := by
  by_cases n1 : s < 0
  · exact opB_neg (f := ⟨28, s⟩) (by simp) n1
  · exact opB_neg (f := ⟨16, a⟩) (by simp) (show a < 0 by omega)
theorem si_pk {q : Si} (u : q.up) : (opB [⟨2, q.s⟩, ⟨16, q.h⟩, ⟨16, q.t⟩] && (opB [⟨28, q.g⟩, ⟨16, q.b⟩] && q.C)) = q.B ∧ (q.B = true → opV [⟨2, q.s⟩, ⟨16, q.h⟩, ⟨16, q.t⟩] = q.v ∧ opV [⟨28, q.g⟩, ⟨16, q.b⟩] = q.w) := by
  have u1 : sml q.s ∧ sml q.h ∧ sml q.t := ⟨u.1, u.2.1, u.2.2.1⟩
  have u2 : sml q.g ∧ sml q.b := ⟨u.2.2.2.1, u.2.2.2.2⟩
  have key : q.B = true → opB [⟨2, q.s⟩, ⟨16, q.h⟩, ⟨16, q.t⟩] = true ∧ opB [⟨28, q.g⟩, ⟨16, q.b⟩] = true := fun hB => by
    have := Si.B_u hB
    rw [pk3_B (by omega) u1, pk2_B (by omega) u2]
    simp only [decide_eq_true_eq]; omega
  refine ⟨?_, fun hB => ?_⟩
  · rw [Bool.eq_iff_iff, Bool.and_eq_true, Bool.and_eq_true]
    constructor
    · rintro ⟨h1, h2, h3⟩
      by_cases hn : 0 ≤ q.s ∧ 0 ≤ q.h ∧ 0 ≤ q.t
      · by_cases hm : 0 ≤ q.g ∧ 0 ≤ q.b
        · rw [pk3_B hn u1] at h1
          rw [pk2_B hm u2] at h2
          simp only [decide_eq_true_eq] at h1 h2
          rwa [Si.CB (by omega) (by omega)] at h3
        · rw [pk2_neg hm] at h2; cases h2
      · rw [pk3_neg hn] at h1; cases h1
    · intro hB
      have hu := Si.B_u hB
      exact ⟨(key hB).1, (key hB).2, by rw [Si.CB (by omega) (by omega)]; exact hB⟩
  · have hu := Si.B_u hB
    rw [pk3_V (by omega) u1 (key hB).1, pk2_V (by omega) u2 (key hB).2]; exact ⟨rfl, rfl⟩
theorem sset_snd : Snd Try.prog 43 (FSpec.of ssetG) := snd_run ToS_snd mixed Try.func43 dc43 300 fun args h K hc hS => by
  obtain ⟨a, b, m, rest, rfl, H, hS1⟩ := memF_spec hS
  clear hS
  have hS := hS1
  clear hS1
  unfold ssetM at hS
  split at hS
  · rename_i x y
    obtain ⟨q, e, hup, hR⟩ := siF_spec hS
    clear hS
    simp only [List.cons.injEq, and_true] at e
    subst e
    simp only [spec_ok, M.ssE, M.ssX] at hR
    have n4 : (0 : Int) < 8 ∧ (8 : Int) ≤ 64 := by decide
    simp only [Si.cl]
    cases ht : otB m x 8 with
    | false =>
      simp only [ht, Bool.false_and, Bool.false_eq_true, if_false, setM_self H] at hR
      simp (config := { maxSteps := 10000000 }) only [run_drx, run_xd, run_xq, run_xg, run_xb, EV1, EV2, EV3, EV4, EV5, EV6, addT, istep, lenR_sl, lenR_ns, lenR_es, pickR, putD, bin1R, un1R, slcR, bnd, capsOf, fillP, S_plain, V_plain, V.cells, S_known, V_known, C.v, blk, setL, setH, eqS, eq1, cmpS, cmp1, isNil, popTo, killT, setT, leT, V.below, C.below, S_below, R.below, V.val, C.val, S_val, R.val, R.takes, vals, shows, List.any_cons, List.any_nil, unnamed, V.kill, V.names, C.names, S_names, R.names, List.set, List.replicate, ↓q_cond_t, ↓q_cond_f, if_true, if_false, reduceCtorEq, rvals, rvC, result, C_known, V.noL, C.noL, S_noL, R.noL, Option.map, true_and, and_true, ge_iff_le, gt_iff_lt, implies_true, q_ite_t, q_ite_f, beq_iff_eq, bne_iff_ne, q_ne, Nat.reduceAdd, Nat.reducePow, Int.reducePow, Nat.reduceMul, Nat.reduceSub, Nat.reduceLeDiff, Nat.reduceLT, Nat.reduceEqDiff, Int.reduceNeg, Int.reduceLT, Int.reduceLE, Int.reduceEq, Int.reduceNe, Int.reduceAdd, Int.reduceSub, Int.reduceMul, Int.reduceToNat, Int.reduceBEq, Int.reduceBNe, df43, ToS, otG, memF_eq H, memF_set H, otM, n4, setM_self H, ht]
      exact hR
    | true =>
      simp only [ht, Bool.true_and, if_true] at hR
      have hb := otB_iff.1 ht
      have hl := m.l
      have h0 : m.has x 1 = true := M.has_of (by omega)
      have h1 : m.has (x + 1) 1 = true := M.has_of (by omega)
      have x1 : IntKind.i64.wrap (x + 1) = x + 1 := wrap64 (by omega) (by omega)
      have hcm : ∀ m', clean (setM h a b m').length (setM h a b m') = true := fun m' => by rw [setM_len]; exact setM_clean H hc H.ltb
      have hA : ∀ (hh : List Blk) (r : Blk) (room : Nat), arrOf Fi.c (hh ++ [r, ⟨.rw, [.i .i64 2, .i .i64 q.s, .i .i64 16, .i .i64 q.h, .i .i64 16, .i .i64 q.t], room⟩]) (.sl (.g (hh.length + 1)) 0 3 3) = some [⟨2, q.s⟩, ⟨16, q.h⟩, ⟨16, q.t⟩] := fun hh r room => fi_lent (L := [⟨2, q.s⟩, ⟨16, q.h⟩, ⟨16, q.t⟩]) rfl rfl (by simp only [List.length_cons]; omega)
      have hA2 : ∀ (hh : List Blk) (r r2 : Blk) (room : Nat), arrOf Fi.c (hh ++ [r, r2, ⟨.rw, [.i .i64 28, .i .i64 q.g, .i .i64 16, .i .i64 q.b], room⟩]) (.sl (.g (hh.length + 2)) 0 2 2) = some [⟨28, q.g⟩, ⟨16, q.b⟩] := fun hh r r2 room => fi_lent (L := [⟨28, q.g⟩, ⟨16, q.b⟩]) rfl rfl (by simp only [List.length_cons]; omega)
      obtain ⟨p1, p2⟩ := si_pk hup
      obtain ⟨ob, hob⟩ : ∃ ob, opB [⟨2, q.s⟩, ⟨16, q.h⟩, ⟨16, q.t⟩] = ob := ⟨_, rfl⟩
      obtain ⟨ov, hov⟩ : ∃ ov, opV [⟨2, q.s⟩, ⟨16, q.h⟩, ⟨16, q.t⟩] = ov := ⟨_, rfl⟩
      obtain ⟨ob2, hob2⟩ : ∃ ob, opB [⟨28, q.g⟩, ⟨16, q.b⟩] = ob := ⟨_, rfl⟩
      obtain ⟨ov2, hov2⟩ : ∃ ov, opV [⟨28, q.g⟩, ⟨16, q.b⟩] = ov := ⟨_, rfl⟩
      rw [hob, hob2] at p1
      rw [hov, hov2] at p2
      cases hB : q.B with
      | false =>
        simp only [hB, Bool.false_eq_true, if_false, setM_self H] at hR
        rw [hB] at p1
        cases ob with
        | false =>
          simp (config := { maxSteps := 10000000 }) only [run_drx, run_xd, run_xq, run_xg, run_xb, EV1, EV2, EV3, EV4, EV5, EV6, addT, istep, lenR_sl, lenR_ns, lenR_es, pickR, putD, bin1R, un1R, slcR, bnd, capsOf, fillP, S_plain, V_plain, V.cells, S_known, V_known, C.v, blk, setL, setH, eqS, eq1, cmpS, cmp1, isNil, popTo, killT, setT, leT, V.below, C.below, S_below, R.below, V.val, C.val, S_val, R.val, R.takes, vals, shows, List.any_cons, List.any_nil, unnamed, V.kill, V.names, C.names, S_names, R.names, List.set, List.replicate, ↓q_cond_t, ↓q_cond_f, if_true, if_false, reduceCtorEq, rvals, rvC, result, C_known, V.noL, C.noL, S_noL, R.noL, Option.map, true_and, and_true, ge_iff_le, gt_iff_lt, implies_true, q_ite_t, q_ite_f, beq_iff_eq, bne_iff_ne, q_ne, Nat.reduceAdd, Nat.reducePow, Int.reducePow, Nat.reduceMul, Nat.reduceSub, Nat.reduceLeDiff, Nat.reduceLT, Nat.reduceEqDiff, Int.reduceNeg, Int.reduceLT, Int.reduceLE, Int.reduceEq, Int.reduceNe, Int.reduceAdd, Int.reduceSub, Int.reduceMul, Int.reduceToNat, Int.reduceBEq, Int.reduceBNe, df43, ToS, otG, memF_eq H, memF_set H, otM, n4, setM_self H, ht, opackG, R.lend, R.unlend, S_ren, C.ren, V.ren, app_taken, app_dropn, app_take0, app_drop0, List.take_succ_cons, List.take_zero, List.drop_succ_cons, List.drop_zero, Nat.not_lt_zero, Nat.lt_irrefl, Nat.add_sub_cancel_left, Nat.not_lt, Nat.le_add_right, nnn, nl0, app_len, hA, hA2, hob, hov, hob2, hov2, hc, Blk.ren, List.map_cons, List.map_nil, put, fillP, sub, List.take_succ_cons, List.take_zero, List.drop_zero]
          exact hR
        | true =>
          cases ob2 with
          | false =>
            simp (config := { maxSteps := 10000000 }) only [run_drx, run_xd, run_xq, run_xg, run_xb, EV1, EV2, EV3, EV4, EV5, EV6, addT, istep, lenR_sl, lenR_ns, lenR_es, pickR, putD, bin1R, un1R, slcR, bnd, capsOf, fillP, S_plain, V_plain, V.cells, S_known, V_known, C.v, blk, setL, setH, eqS, eq1, cmpS, cmp1, isNil, popTo, killT, setT, leT, V.below, C.below, S_below, R.below, V.val, C.val, S_val, R.val, R.takes, vals, shows, List.any_cons, List.any_nil, unnamed, V.kill, V.names, C.names, S_names, R.names, List.set, List.replicate, ↓q_cond_t, ↓q_cond_f, if_true, if_false, reduceCtorEq, rvals, rvC, result, C_known, V.noL, C.noL, S_noL, R.noL, Option.map, true_and, and_true, ge_iff_le, gt_iff_lt, implies_true, q_ite_t, q_ite_f, beq_iff_eq, bne_iff_ne, q_ne, Nat.reduceAdd, Nat.reducePow, Int.reducePow, Nat.reduceMul, Nat.reduceSub, Nat.reduceLeDiff, Nat.reduceLT, Nat.reduceEqDiff, Int.reduceNeg, Int.reduceLT, Int.reduceLE, Int.reduceEq, Int.reduceNe, Int.reduceAdd, Int.reduceSub, Int.reduceMul, Int.reduceToNat, Int.reduceBEq, Int.reduceBNe, df43, ToS, otG, memF_eq H, memF_set H, otM, n4, setM_self H, ht, opackG, R.lend, R.unlend, S_ren, C.ren, V.ren, app_taken, app_dropn, app_take0, app_drop0, List.take_succ_cons, List.take_zero, List.drop_succ_cons, List.drop_zero, Nat.not_lt_zero, Nat.lt_irrefl, Nat.add_sub_cancel_left, Nat.not_lt, Nat.le_add_right, nnn, nl0, app_len, hA, hA2, hob, hov, hob2, hov2, hc, Blk.ren, List.map_cons, List.map_nil, put, fillP, sub, List.take_succ_cons, List.take_zero, List.drop_zero]
            exact hR
          | true =>
            simp only [Bool.true_and] at p1
            simp (config := { maxSteps := 10000000 }) only [run_drx, run_xd, run_xq, run_xg, run_xb, EV1, EV2, EV3, EV4, EV5, EV6, addT, istep, lenR_sl, lenR_ns, lenR_es, pickR, putD, bin1R, un1R, slcR, bnd, capsOf, fillP, S_plain, V_plain, V.cells, S_known, V_known, C.v, blk, setL, setH, eqS, eq1, cmpS, cmp1, isNil, popTo, killT, setT, leT, V.below, C.below, S_below, R.below, V.val, C.val, S_val, R.val, R.takes, vals, shows, List.any_cons, List.any_nil, unnamed, V.kill, V.names, C.names, S_names, R.names, List.set, List.replicate, ↓q_cond_t, ↓q_cond_f, if_true, if_false, reduceCtorEq, rvals, rvC, result, C_known, V.noL, C.noL, S_noL, R.noL, Option.map, true_and, and_true, ge_iff_le, gt_iff_lt, implies_true, q_ite_t, q_ite_f, beq_iff_eq, bne_iff_ne, q_ne, Nat.reduceAdd, Nat.reducePow, Int.reducePow, Nat.reduceMul, Nat.reduceSub, Nat.reduceLeDiff, Nat.reduceLT, Nat.reduceEqDiff, Int.reduceNeg, Int.reduceLT, Int.reduceLE, Int.reduceEq, Int.reduceNe, Int.reduceAdd, Int.reduceSub, Int.reduceMul, Int.reduceToNat, Int.reduceBEq, Int.reduceBNe, df43, ToS, otG, memF_eq H, memF_set H, otM, n4, setM_self H, ht, opackG, R.lend, R.unlend, S_ren, C.ren, V.ren, app_taken, app_dropn, app_take0, app_drop0, List.take_succ_cons, List.take_zero, List.drop_succ_cons, List.drop_zero, Nat.not_lt_zero, Nat.lt_irrefl, Nat.add_sub_cancel_left, Nat.not_lt, Nat.le_add_right, nnn, nl0, app_len, hA, hA2, hob, hov, hob2, hov2, hc, siCG, siF, si_eta, p1, Blk.ren, List.map_cons, List.map_nil, put, fillP, sub, List.take_succ_cons, List.take_zero, List.drop_zero]
            exact hR
      | true =>
        simp only [hB, if_true] at hR
        rw [hB, Bool.and_eq_true, Bool.and_eq_true] at p1
        obtain ⟨p3, p4, p5⟩ := p1
        obtain ⟨hu, hv⟩ := Si.w_u hB
        obtain ⟨p2, p6⟩ := p2 hB
        simp (config := { maxSteps := 10000000 }) only [run_drx, run_xd, run_xq, run_xg, run_xb, EV1, EV2, EV3, EV4, EV5, EV6, addT, istep, lenR_sl, lenR_ns, lenR_es, pickR, putD, bin1R, un1R, slcR, bnd, capsOf, fillP, S_plain, V_plain, V.cells, S_known, V_known, C.v, blk, setL, setH, eqS, eq1, cmpS, cmp1, isNil, popTo, killT, setT, leT, V.below, C.below, S_below, R.below, V.val, C.val, S_val, R.val, R.takes, vals, shows, List.any_cons, List.any_nil, unnamed, V.kill, V.names, C.names, S_names, R.names, List.set, List.replicate, ↓q_cond_t, ↓q_cond_f, if_true, if_false, reduceCtorEq, rvals, rvC, result, C_known, V.noL, C.noL, S_noL, R.noL, Option.map, true_and, and_true, ge_iff_le, gt_iff_lt, implies_true, q_ite_t, q_ite_f, beq_iff_eq, bne_iff_ne, q_ne, Nat.reduceAdd, Nat.reducePow, Int.reducePow, Nat.reduceMul, Nat.reduceSub, Nat.reduceLeDiff, Nat.reduceLT, Nat.reduceEqDiff, Int.reduceNeg, Int.reduceLT, Int.reduceLE, Int.reduceEq, Int.reduceNe, Int.reduceAdd, Int.reduceSub, Int.reduceMul, Int.reduceToNat, Int.reduceBEq, Int.reduceBNe, df43, ToS, otG, memF_eq H, memF_set H, otM, n4, setM_self H, ht, opackG, R.lend, R.unlend, S_ren, C.ren, V.ren, app_taken, app_dropn, app_take0, app_drop0, List.take_succ_cons, List.take_zero, List.drop_succ_cons, List.drop_zero, Nat.not_lt_zero, Nat.lt_irrefl, Nat.add_sub_cancel_left, Nat.not_lt, Nat.le_add_right, nnn, nl0, app_len, hA, hA2, hob, hov, hob2, hov2, p2, p3, p4, p6, hc, siCG, siF, si_eta, p5, writeG, writeM, h0, h1, x1, M.tick_has, M.put_has, hu, hv, Blk.ren, List.map_cons, List.map_nil, put, fillP, sub, List.take_succ_cons, List.take_zero, List.drop_zero]
        exact hR
  · exact hS.elim
end Go.Proofs.Ytdlloccodmdnnaa

/- Package walk: entries, indices. -/
namespace Go.Proofs.Ytdlloccodmdnnaa
open Go.D
set_option linter.all false
set_option maxRecDepth 100000
set_option maxHeartbeats 4000000

structure En where
  v : Bool
  l : Bool
  a : Int
  r : Int
def En.c (e : En) : List S := [.b e.v, .b e.l, .i .i64 e.a, .i .i64 e.r]
theorem En.c_len (e : En) : e.c.length = 4 := rfl
def enZ : En := ⟨false, false, 0, 0⟩
theorem En.ext' {e f : En} (h1 : e.v = f.v) (h2 : e.l = f.l) (h3 : e.a = f.a) (h4 : e.r = f.r) : e = f := by
  cases e; cases f; simp only at h1 h2 h3 h4; subst h1; subst h2; subst h3; subst h4; rfl
/-- May it be? -/
def En.may (e : En) : Bool :=
  match e.v, e.l with
  | false, l => !l && (e.a == 0 && e.r == 0)
  | true, true => decide (16 ≤ e.a ∧ e.a ≤ 65520 ∧ e.a % 16 = 0 ∧ 0 ≤ e.r ∧ e.r ≤ 3)
  | true, false => decide (8 ≤ e.a ∧ e.a ≤ 65528 ∧ e.a % 8 = 0 ∧ e.r = 0)
def bI (b : Bool) : Int := if b then 1 else 0
def En.w (e : En) : Int := e.a * 65536 + e.r * 4 + (bI e.v + 2 * bI e.l)
/-- What a word says. -/
def enOf (w : Int) : En := ⟨decide (w % 2 = 1), decide (w / 2 % 2 = 1), w / 65536 % 65536, w / 4 % 4⟩
def enB (w : Int) : Bool := (enOf w).may && decide ((enOf w).w = w)
theorem En.w_uu {e : En} (h : e.may = true) : u64 e.w ∧ 0 ≤ e.a ∧ e.a ≤ 65528 ∧ 0 ≤ e.r ∧ e.r ≤ 3 := by
  obtain ⟨v, l, a, r⟩ := e
  cases v <;> cases l <;> simp [En.may, En.w, bI, u64] at h ⊢ <;> omega
theorem En.back {e : En} (h : e.may = true) : enOf e.w = e := by
  obtain ⟨v, l, a, r⟩ := e
  cases v <;> cases l <;> simp [En.may] at h
  all_goals refine En.ext' ?_ ?_ ?_ ?_ <;> simp [enOf, En.w, bI] <;> omega
theorem En.backB {e : En} (h : e.may = true) : enB e.w = true := by
  simp only [enB, En.back h, h, decide_true, Bool.and_self]

/-! ### bits -/
theorem u64_and_mask {w : Int} (hw : u64 w) {k : Nat} (hk : k ≤ 64) {m : Int} (hm : m = ((2 ^ k - 1 : Nat) : Int)) : bits .and .u64 w m = w % (2 ^ k : Nat) := by
  obtain ⟨n, rfl, hn⟩ := hw.nat
  have hp : 2 ^ k ≤ 18446744073709551616 := by have := pow_le64 (k := 0) (n := k) (by omega); simpa using this
  rw [hm, bits_and_u64_nat n _ hn (by have := Nat.two_pow_pos k; omega), Nat.and_two_pow_sub_one_eq_mod, Int.natCast_emod]
theorem and1 {w : Int} (hw : u64 w) : bits .and .u64 w 1 = w % 2 := u64_and_mask hw (k := 1) (by omega) rfl
theorem and3 {w : Int} (hw : u64 w) : bits .and .u64 w 3 = w % 4 := u64_and_mask hw (k := 2) (by omega) rfl
theorem and16 {w : Int} (hw : u64 w) : bits .and .u64 w 65535 = w % 65536 := u64_and_mask hw (k := 16) (by omega) rfl
theorem and2 {w : Int} (hw : u64 w) : bits .and .u64 w 2 = w / 2 % 2 * 2 := by
  obtain ⟨n, rfl, hn⟩ := hw.nat
  have := bits_and_u64_nat n 2 hn (by omega)
  rw [show ((2 : Nat) : Int) = 2 from rfl] at this
  rw [this]
  have h2 := nat_and_field n 1 1
  simp only [Nat.reducePow, Nat.reduceSub, Nat.reduceMul] at h2
  rw [h2]; omega
/-- Bits that are apart are added. -/
theorem u64_or_add {a b : Int} {k : Nat} (ha : u64 a) (hb : 0 ≤ b) (hk : b < (2 ^ k : Nat)) (hd : a % (2 ^ k : Nat) = 0) (hk64 : k ≤ 64) : bits .or .u64 a b = a + b := by
  obtain ⟨n, rfl, hn⟩ := ha.nat
  obtain ⟨m, rfl⟩ : ∃ m : Nat, b = m := ⟨b.toNat, by omega⟩
  have hm : m < 2 ^ k := by omega
  have hp : 2 ^ k ≤ 18446744073709551616 := by have := pow_le64 (k := 0) (n := k) (by omega); simpa using this
  rw [bits_or_u64_nat n m hn (by omega)]
  obtain ⟨q, hq⟩ : ∃ q, n = 2 ^ k * q := ⟨n / 2 ^ k, by
    have h1 : n % 2 ^ k = 0 := by exact_mod_cast hd
    have := Nat.div_add_mod n (2 ^ k); omega⟩
  rw [hq, ← Nat.two_pow_add_eq_or_of_lt hm]
  simp
theorem or_leaf {a : Int} (ha : u64 a) (h : a % 4 = 1) : bits .or .u64 a 2 = a + 2 := by
  obtain ⟨n, rfl, hn⟩ := ha.nat
  have := bits_or_u64_nat n 2 hn (by omega)
  rw [show ((2 : Nat) : Int) = 2 from rfl] at this
  rw [this]
  have h1 : n % 4 = 1 := by omega
  have e : n = 2 ^ 2 * (n / 4) + 1 := by omega
  have e1 : n ||| 2 = 2 ^ 2 * (n / 4) + 3 := by
    have h2 := Nat.two_pow_add_eq_or_of_lt (i := 2) (b := 1) (by omega) (n / 4)
    have h3 := Nat.two_pow_add_eq_or_of_lt (i := 2) (b := 3) (by omega) (n / 4)
    rw [h3]
    conv => lhs; rw [e, h2, Nat.or_assoc]
    rfl
  rw [e1]; omega

/-! ### package walk -/
def wInG : List V → List Blk → Res
  | [.s (.i .i64 n), .s (.i .i64 a), .s (.i .i64 b), .s (.i .i64 k)], h => .ob (k ≠ 0) (.ok (.s (.b (decide (a ≤ n) && (decide (n ≤ b) && n.tmod k == 0)))) [] h)
  | _, _ => .bad
theorem wIn_snd : Snd Try.prog 125 (FSpec.of wInG) := snd_run (noT_snd _) mixed Try.func125 dc125 100 fun args h K hc hS => by
  unfold wInG at hS
  split at hS
  · simp only [spec_ob, spec_ok] at hS
    obtain ⟨h0, hS⟩ := hS
    simp (config := { maxSteps := 10000000 }) only [run_drx, run_xd, run_xq, run_xg, run_xb, EV1, EV2, EV3, EV4, EV5, EV6, addT, istep, lenR_sl, lenR_ns, lenR_es, pickR, putD, bin1R, un1R, slcR, bnd, capsOf, fillP, S_plain, V_plain, V.cells, S_known, V_known, C.v, blk, setL, setH, eqS, eq1, cmpS, cmp1, isNil, popTo, killT, setT, leT, V.below, C.below, S_below, R.below, V.val, C.val, S_val, R.val, R.takes, vals, shows, List.any_cons, List.any_nil, unnamed, V.kill, V.names, C.names, S_names, R.names, List.set, List.replicate, ↓q_cond_t, ↓q_cond_f, if_true, if_false, reduceCtorEq, rvals, rvC, result, C_known, V.noL, C.noL, S_noL, R.noL, Option.map, true_and, and_true, ge_iff_le, gt_iff_lt, implies_true, q_ite_t, q_ite_f, beq_iff_eq, bne_iff_ne, q_ne, Nat.reduceAdd, Nat.reducePow, Int.reducePow, Nat.reduceMul, Nat.reduceSub, Nat.reduceLeDiff, Nat.reduceLT, Nat.reduceEqDiff, Int.reduceNeg, Int.reduceLT, Int.reduceLE, Int.reduceEq, Int.reduceNe, Int.reduceAdd, Int.reduceSub, Int.reduceMul, Int.reduceToNat, Int.reduceBEq, Int.reduceBNe, df125, h0, Bool.and_assoc]
    exact hS
  · exact hS.elim
def TwI : Tab := addT 125 wInG noT
theorem TwI_snd : TwI.Snd Try.prog := addT_snd ok125 wIn_snd (noT_snd _)

def enF (f : En → Res) : List V → Res
  | [.agg [.b v, .b l, .i .i64 a, .i .i64 r]] => f ⟨v, l, a, r⟩
  | _ => .bad
theorem enF_spec {f : En → Res} {args : List V} {K : V → List Blk → Prop} (h : (enF f args).spec K) : ∃ e : En, args = [.agg e.c] ∧ (f e).spec K := by
  unfold enF at h
  split at h
  · exact ⟨_, rfl, h⟩
  · exact h.elim
def wMayG (args : List V) (h : List Blk) : Res := enF (fun e => .ok (.s (.b e.may)) [] h) args
theorem tmod1 (n : Int) : n.tmod 1 = 0 := by simp
theorem tmod_0 {a : Int} {k : Int} (h : 0 ≤ a) : (a.tmod k = 0) = (a % k = 0) := by rw [Int.tmod_eq_emod_of_nonneg h]
theorem may_leaf (a r : Int) : (decide (16 ≤ a) && (decide (a ≤ 65520) && a.tmod 16 == 0) && (decide (0 ≤ r) && decide (r ≤ 3))) = decide (16 ≤ a ∧ a ≤ 65520 ∧ a % 16 = 0 ∧ 0 ≤ r ∧ r ≤ 3) := by
  rw [Bool.eq_iff_iff]
  simp only [Bool.and_eq_true, decide_eq_true_eq, beq_iff_eq]
  by_cases h : 0 ≤ a
  · rw [tmod_0 h]; omega
  · omega
theorem may_table (a r : Int) : (decide (8 ≤ a) && (decide (a ≤ 65528) && a.tmod 8 == 0) && r == 0) = decide (8 ≤ a ∧ a ≤ 65528 ∧ a % 8 = 0 ∧ r = 0) := by
  rw [Bool.eq_iff_iff]
  simp only [Bool.and_eq_true, decide_eq_true_eq, beq_iff_eq]
  by_cases h : 0 ≤ a
  · rw [tmod_0 h]; omega
  · omega
theorem wMay_snd : Snd Try.prog 115 (FSpec.of wMayG) := snd_run TwI_snd mixed Try.func115 dc115 200 fun args h K hc hS => by
  obtain ⟨⟨v, l, a, r⟩, rfl, hR⟩ := enF_spec hS
  clear hS
  simp only [spec_ok] at hR
  simp only [En.c]
  cases v <;> cases l
  all_goals simp only [En.may, ← may_leaf, ← may_table, Bool.not_false, Bool.not_true, Bool.true_and, Bool.false_and] at hR
  all_goals simp (config := { maxSteps := 10000000 }) only [run_drx, run_xd, run_xq, run_xg, run_xb, EV1, EV2, EV3, EV4, EV5, EV6, addT, istep, lenR_sl, lenR_ns, lenR_es, pickR, putD, bin1R, un1R, slcR, bnd, capsOf, fillP, S_plain, V_plain, V.cells, S_known, V_known, C.v, blk, setL, setH, eqS, eq1, cmpS, cmp1, isNil, popTo, killT, setT, leT, V.below, C.below, S_below, R.below, V.val, C.val, S_val, R.val, R.takes, vals, shows, List.any_cons, List.any_nil, unnamed, V.kill, V.names, C.names, S_names, R.names, List.set, List.replicate, ↓q_cond_t, ↓q_cond_f, if_true, if_false, reduceCtorEq, rvals, rvC, result, C_known, V.noL, C.noL, S_noL, R.noL, Option.map, true_and, and_true, ge_iff_le, gt_iff_lt, implies_true, q_ite_t, q_ite_f, beq_iff_eq, bne_iff_ne, q_ne, Nat.reduceAdd, Nat.reducePow, Int.reducePow, Nat.reduceMul, Nat.reduceSub, Nat.reduceLeDiff, Nat.reduceLT, Nat.reduceEqDiff, Int.reduceNeg, Int.reduceLT, Int.reduceLE, Int.reduceEq, Int.reduceNe, Int.reduceAdd, Int.reduceSub, Int.reduceMul, Int.reduceToNat, Int.reduceBEq, Int.reduceBNe, df115, TwI, wInG, tmod1, Bool.and_assoc, put, fillP]
  all_goals first | exact hR | (simpa [Bool.and_assoc] using hR)
end Go.Proofs.Ytdlloccodmdnnaa

