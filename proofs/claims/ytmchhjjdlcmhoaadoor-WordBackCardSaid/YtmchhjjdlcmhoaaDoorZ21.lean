/- Unpack over slices of whatever form. -/
import Derived.Test.YtmchhjjdlcmhoaaDoorZ12
import Derived.Test.YtmchhjjdlcmhoaaDoorZ20
/- Unpack over slices of whatever form. -/
namespace Go.Proofs.YtmchhjjdlcmhoaaDoor
open Go.D
set_option linter.all false
set_option maxRecDepth 100000
set_option maxHeartbeats 4000000

theorem unpack_loop4 {h : List Blk} {K : V → List Blk → Prop} {k n c0 : Nat} {w : Nat} {B : Blk} {L : List Int} (hw : w < 18446744073709551616) (hk : h[k]? = some B) (hst0 : n ≠ 0 → B.st ≠ .dead) (hB : B.cells = arr Ic L) (hn : n ≤ L.length) (hn64 : n ≤ 9223372036854775807) (hc : clean h.length h = true)
    (hS : (Res.br (unpackB (w : Int) (L.take n) 0) (wordsR (unpackV (w : Int) (L.take n) 0) (pairV 0) h) (.ok (.tup [.s .ns, .s (.i .i64 10)]) [] h)).spec K) :
    holds W2.Γ h.length (finP df16.res K) (run W2 100 [.c df16.body] ([V.s (.i .u64 w), V.s (.sl (.g k) 0 n c0)] ++ List.replicate 39 (.tup [])) [] h) := by
  simp only [spec_br, spec_ok] at hS
  obtain ⟨F, hF⟩ : ∃ F, F = L.take n := ⟨_, rfl⟩
  have hFl : F.length = n := by rw [hF]; simp; omega
  rw [← hF] at hS
  have hwu := u64_of hw
  simp (config := { maxSteps := 10000000 }) only [run_drx, run_xd, run_xq, run_xg, run_xb, EV1, EV2, EV3, EV4, EV5, EV6, addT, istep, lenR_sl, lenR_ns, lenR_es, pickR, putD, bin1R, un1R, slcR, bnd, capsOf, fillP, S_plain, V_plain, V.cells, S_known, V_known, C.v, blk, setL, setH, eqS, eq1, cmpS, cmp1, isNil, popTo, killT, setT, leT, V.below, C.below, S_below, R.below, V.val, C.val, S_val, R.val, R.takes, vals, shows, List.any_cons, List.any_nil, unnamed, V.kill, V.names, C.names, S_names, R.names, List.set, List.replicate, ↓q_cond_t, ↓q_cond_f, if_true, if_false, reduceCtorEq, rvals, rvC, result, C_known, V.noL, C.noL, S_noL, R.noL, Option.map, true_and, and_true, ge_iff_le, gt_iff_lt, implies_true, q_ite_t, q_ite_f, beq_iff_eq, bne_iff_ne, q_ne, Nat.reduceAdd, Nat.reducePow, Int.reducePow, Nat.reduceMul, Nat.reduceSub, Nat.reduceLeDiff, Nat.reduceLT, Nat.reduceEqDiff, Int.reduceNeg, Int.reduceLT, Int.reduceLE, Int.reduceEq, Int.reduceNe, Int.reduceAdd, Int.reduceSub, Int.reduceMul, Int.reduceToNat, Int.reduceBEq, Int.reduceBNe, df16]
  refine loop_rule (α := Nat × Nat × List Int × Nat) [4, 5, 6, 7, 9, 10, 11, 14, 15, 16, 17, 18, 19, 20, 21, 22, 23, 24, 25, 26, 27, 28, 29, 30, 31, 32, 33, 34, 35] (fun y => [(6, slT y.2.2.1 y.2.2.2), (7, .s (.i .i64 y.2.1)), (14, .s (.i .i64 y.1))]) (fun y => lsT y.2.2.1 y.2.2.2) (fun _ => h)
    (fun y => y.1 ≤ n ∧ y.2.1 ≤ 64 ∧ y.2.2.1.length = y.1 ∧ y.1 ≤ y.2.1 ∧ y.2.2.1.length ≤ y.2.2.2 ∧ unpackB w F 0 = unpackB w (F.drop y.1) y.2.1 ∧ unpackV w F 0 = y.2.2.1 ++ unpackV w (F.drop y.1) y.2.1) (fun y => n - y.1) (0, 0, [], 0) ⟨by simp, by simp, rfl, by simp, by simp, by simp, by simp⟩ (Wk.same rfl rfl ?_) ?_
  · simp (config := { maxSteps := 10000000 }) only [run_drx, run_xd, run_xq, run_xg, run_xb, EV1, EV2, EV3, EV4, EV5, EV6, addT, istep, lenR_sl, lenR_ns, lenR_es, pickR, putD, bin1R, un1R, slcR, bnd, capsOf, fillP, S_plain, V_plain, V.cells, S_known, V_known, C.v, blk, setL, setH, eqS, eq1, cmpS, cmp1, isNil, popTo, killT, setT, leT, V.below, C.below, S_below, R.below, V.val, C.val, S_val, R.val, R.takes, vals, shows, List.any_cons, List.any_nil, unnamed, V.kill, V.names, C.names, S_names, R.names, List.set, List.replicate, ↓q_cond_t, ↓q_cond_f, if_true, if_false, reduceCtorEq, rvals, rvC, result, C_known, V.noL, C.noL, S_noL, R.noL, Option.map, true_and, and_true, ge_iff_le, gt_iff_lt, implies_true, q_ite_t, q_ite_f, beq_iff_eq, bne_iff_ne, q_ne, Nat.reduceAdd, Nat.reducePow, Int.reducePow, Nat.reduceMul, Nat.reduceSub, Nat.reduceLeDiff, Nat.reduceLT, Nat.reduceEqDiff, Int.reduceNeg, Int.reduceLT, Int.reduceLE, Int.reduceEq, Int.reduceNe, Int.reduceAdd, Int.reduceSub, Int.reduceMul, Int.reduceToNat, Int.reduceBEq, Int.reduceBNe, Int.natCast_zero, slT]
  · rintro X ⟨i, a, M, c⟩ ⟨hi, ha, hM, hia, hMc, hpb, hpv⟩ IH
    simp only at hi ha hM hia hMc hpb hpv ⊢
    rcases Nat.lt_or_ge i n with hlt | hge
    · have I := idx hlt hn64
      have hst := hst0 (by omega)
      have hiL : i < L.length := by omega
      obtain ⟨b, hb⟩ : ∃ b, b = nth 0 L i := ⟨_, rfl⟩
      have E : B.cells[i]? = some (.i .i64 b) := by
        have := arr_get0 Ic_len hiL (by omega)
        rw [Nat.mul_one] at this
        rw [hB, this, hb, nth_eq hiL]; rfl
      have hd : F.drop i = b :: F.drop (i + 1) := by
        rw [List.drop_eq_getElem_cons (by omega), hb, nth_eq hiL]
        congr 1
        subst hF; simp
      rw [hd] at hpb hpv
      simp only [unpackB, unpackV] at hpb hpv
      cases hf : fieldB (a : Int) b with
      | true =>
        obtain ⟨a', m, e1, e2, h1, h2, h3⟩ := fieldB_nat hf
        have : a' = a := by omega
        subst this
        have hwr : IntKind.i64.wrap ((a' : Int) + b) = ((a' + m : Nat) : Int) := by rw [wrap64] <;> omega
        have hpb' : unpackB w F 0 = unpackB w (F.drop (i + 1)) ((a' + m : Nat) : Int) := by rw [hpb, hf, Bool.true_and, e2]; rfl
        cases M with
        | nil =>
          have hkl : k < h.length := (List.getElem?_eq_some_iff.1 hk).1
          simp only [slT, lsT]
          refine run_sound (Tab.ok_Γ _) 200 _ _ _ _ ?_
          simp (config := { maxSteps := 10000000 }) only [run_drx, run_xd, run_xq, run_xg, run_xb, EV1, EV2, EV3, EV4, EV5, EV6, addT, istep, lenR_sl, lenR_ns, lenR_es, pickR, putD, bin1R, un1R, slcR, bnd, capsOf, fillP, S_plain, V_plain, V.cells, S_known, V_known, C.v, blk, setL, setH, eqS, eq1, cmpS, cmp1, isNil, popTo, killT, setT, leT, V.below, C.below, S_below, R.below, V.val, C.val, S_val, R.val, R.takes, vals, shows, List.any_cons, List.any_nil, unnamed, V.kill, V.names, C.names, S_names, R.names, List.set, List.replicate, ↓q_cond_t, ↓q_cond_f, if_true, if_false, reduceCtorEq, rvals, rvC, result, C_known, V.noL, C.noL, S_noL, R.noL, Option.map, true_and, and_true, ge_iff_le, gt_iff_lt, implies_true, q_ite_t, q_ite_f, beq_iff_eq, bne_iff_ne, q_ne, Nat.reduceAdd, Nat.reducePow, Int.reducePow, Nat.reduceMul, Nat.reduceSub, Nat.reduceLeDiff, Nat.reduceLT, Nat.reduceEqDiff, Int.reduceNeg, Int.reduceLT, Int.reduceLE, Int.reduceEq, Int.reduceNe, Int.reduceAdd, Int.reduceSub, Int.reduceMul, Int.reduceToNat, Int.reduceBEq, Int.reduceBNe, I, E, hk, hst, W2, getG, hwu, hf, hwr]
          intro c' hc'
          refine IH (i + 1, a' + m, [getV w a' b], c') _ (by simp only; omega) ⟨by simp only; omega, h3, by simp at hM ⊢; omega, by simp only; omega, by simpa using hc', hpb', ?_⟩ (Wk.shift 1 ?_ (Nat.le_refl _) ?_ ?_ hc ?_ (clean_ren hc 1))
          · rw [hpv, e2]; rfl
          · simp [lsT, arr, Uc, Blk.ren, S.ren]
          · simp (config := { maxSteps := 10000000 }) only [run_drx, run_xd, run_xq, run_xg, run_xb, EV1, EV2, EV3, EV4, EV5, EV6, addT, istep, lenR_sl, lenR_ns, lenR_es, pickR, putD, bin1R, un1R, slcR, bnd, capsOf, fillP, S_plain, V_plain, V.cells, S_known, V_known, C.v, blk, setL, setH, eqS, eq1, cmpS, cmp1, isNil, popTo, killT, setT, leT, V.below, C.below, S_below, R.below, V.val, C.val, S_val, R.val, R.takes, vals, shows, List.any_cons, List.any_nil, unnamed, V.kill, V.names, C.names, S_names, R.names, List.set, List.replicate, ↓q_cond_t, ↓q_cond_f, if_true, if_false, reduceCtorEq, rvals, rvC, result, C_known, V.noL, C.noL, S_noL, R.noL, Option.map, true_and, and_true, ge_iff_le, gt_iff_lt, implies_true, q_ite_t, q_ite_f, beq_iff_eq, bne_iff_ne, q_ne, Nat.reduceAdd, Nat.reducePow, Int.reducePow, Nat.reduceMul, Nat.reduceSub, Nat.reduceLeDiff, Nat.reduceLT, Nat.reduceEqDiff, Int.reduceNeg, Int.reduceLT, Int.reduceLE, Int.reduceEq, Int.reduceNe, Int.reduceAdd, Int.reduceSub, Int.reduceMul, Int.reduceToNat, Int.reduceBEq, Int.reduceBNe, slT, V.ren, S.ren, R.shift, Nat.add_comm]
          · simp (config := { maxSteps := 10000000 }) only [run_drx, run_xd, run_xq, run_xg, run_xb, EV1, EV2, EV3, EV4, EV5, EV6, addT, istep, lenR_sl, lenR_ns, lenR_es, pickR, putD, bin1R, un1R, slcR, bnd, capsOf, fillP, S_plain, V_plain, V.cells, S_known, V_known, C.v, blk, setL, setH, eqS, eq1, cmpS, cmp1, isNil, popTo, killT, setT, leT, V.below, C.below, S_below, R.below, V.val, C.val, S_val, R.val, R.takes, vals, shows, List.any_cons, List.any_nil, unnamed, V.kill, V.names, C.names, S_names, R.names, List.set, List.replicate, ↓q_cond_t, ↓q_cond_f, if_true, if_false, reduceCtorEq, rvals, rvC, result, C_known, V.noL, C.noL, S_noL, R.noL, Option.map, true_and, and_true, ge_iff_le, gt_iff_lt, implies_true, q_ite_t, q_ite_f, beq_iff_eq, bne_iff_ne, q_ne, Nat.reduceAdd, Nat.reducePow, Int.reducePow, Nat.reduceMul, Nat.reduceSub, Nat.reduceLeDiff, Nat.reduceLT, Nat.reduceEqDiff, Int.reduceNeg, Int.reduceLT, Int.reduceLE, Int.reduceEq, Int.reduceNe, Int.reduceAdd, Int.reduceSub, Int.reduceMul, Int.reduceToNat, Int.reduceBEq, Int.reduceBNe, slT, lsT, hkl]
          · simp (config := { maxSteps := 10000000 }) only [run_drx, run_xd, run_xq, run_xg, run_xb, EV1, EV2, EV3, EV4, EV5, EV6, addT, istep, lenR_sl, lenR_ns, lenR_es, pickR, putD, bin1R, un1R, slcR, bnd, capsOf, fillP, S_plain, V_plain, V.cells, S_known, V_known, C.v, blk, setL, setH, eqS, eq1, cmpS, cmp1, isNil, popTo, killT, setT, leT, V.below, C.below, S_below, R.below, V.val, C.val, S_val, R.val, R.takes, vals, shows, List.any_cons, List.any_nil, unnamed, V.kill, V.names, C.names, S_names, R.names, List.set, List.replicate, ↓q_cond_t, ↓q_cond_f, if_true, if_false, reduceCtorEq, rvals, rvC, result, C_known, V.noL, C.noL, S_noL, R.noL, Option.map, true_and, and_true, ge_iff_le, gt_iff_lt, implies_true, q_ite_t, q_ite_f, beq_iff_eq, bne_iff_ne, q_ne, Nat.reduceAdd, Nat.reducePow, Int.reducePow, Nat.reduceMul, Nat.reduceSub, Nat.reduceLeDiff, Nat.reduceLT, Nat.reduceEqDiff, Int.reduceNeg, Int.reduceLT, Int.reduceLE, Int.reduceEq, Int.reduceNe, Int.reduceAdd, Int.reduceSub, Int.reduceMul, Int.reduceToNat, Int.reduceBEq, Int.reduceBNe, lsT, arr, Uc, hkl, hst]
        | cons y M =>
          have hl := arr_length Uc_len (y :: M)
          have hk1 : known (arr Uc (y :: M)) = true := uc_all _ (fun _ => rfl) _
          have hk2 : ∀ k, ((arr Uc (y :: M)).all fun s => !S.names k s) = true := fun k => uc_all _ (fun _ => rfl) _
          have hMl : M.length + 1 = i := by simpa using hM
          have hroom : M.length + 1 ≤ 64 := by omega
          simp only [slT, lsT]
          refine run_sound (Tab.ok_Γ _) 200 _ _ _ _ ?_
          simp (config := { maxSteps := 10000000 }) only [run_drx, run_xd, run_xq, run_xg, run_xb, EV1, EV2, EV3, EV4, EV5, EV6, addT, istep, lenR_sl, lenR_ns, lenR_es, pickR, putD, bin1R, un1R, slcR, bnd, capsOf, fillP, S_plain, V_plain, V.cells, S_known, V_known, C.v, blk, setL, setH, eqS, eq1, cmpS, cmp1, isNil, popTo, killT, setT, leT, V.below, C.below, S_below, R.below, V.val, C.val, S_val, R.val, R.takes, vals, shows, List.any_cons, List.any_nil, unnamed, V.kill, V.names, C.names, S_names, R.names, List.set, List.replicate, ↓q_cond_t, ↓q_cond_f, if_true, if_false, reduceCtorEq, rvals, rvC, result, C_known, V.noL, C.noL, S_noL, R.noL, Option.map, true_and, and_true, ge_iff_le, gt_iff_lt, implies_true, q_ite_t, q_ite_f, beq_iff_eq, bne_iff_ne, q_ne, Nat.reduceAdd, Nat.reducePow, Int.reducePow, Nat.reduceMul, Nat.reduceSub, Nat.reduceLeDiff, Nat.reduceLT, Nat.reduceEqDiff, Int.reduceNeg, Int.reduceLT, Int.reduceLE, Int.reduceEq, Int.reduceNe, Int.reduceAdd, Int.reduceSub, Int.reduceMul, Int.reduceToNat, Int.reduceBEq, Int.reduceBNe, I, E, hk, hst, W2, getG, hwu, hf, hwr, hl, hk1, hk2]
          refine ⟨by omega, fun c' hc' => ?_⟩
          obtain ⟨M', hM'⟩ : ∃ M', M' = M ++ [getV w a' b] := ⟨_, rfl⟩
          have hM'l : M'.length = M.length + 1 := by rw [hM']; simp
          have hI : i + 1 ≤ n ∧ a' + m ≤ 64 ∧ (y :: M').length = i + 1 ∧ i + 1 ≤ a' + m ∧ (y :: M').length ≤ c' ∧ unpackB w F 0 = unpackB w (F.drop (i + 1)) ((a' + m : Nat) : Int) ∧ unpackV w F 0 = (y :: M') ++ unpackV w (F.drop (i + 1)) ((a' + m : Nat) : Int) := by
            refine ⟨by omega, h3, by simp only [List.length_cons]; omega, by omega, by simp only [List.length_cons]; omega, hpb', ?_⟩
            rw [hpv, hM', e2, Int.natCast_add, List.cons_append, List.cons_append, List.append_assoc]; rfl
          refine IH (i + 1, a' + m, y :: M', c') _ (by simp only; omega) hI ?_
          simp only [slT, lsT]
          have hc2 : arr Uc (y :: M) ++ [S.i .u64 (getV w a' b)] = arr Uc (y :: M') := by rw [hM']; simp [arr_append, arr, Uc]
          have hk3 : (arr Uc (y :: M')).all (S.below 1) = true := uc_all _ (fun _ => rfl) _
          refine Wk.keep 1 (by rw [hc2]; rfl) rfl ?_ ?_ ?_
          · simp (config := { maxSteps := 10000000 }) only [run_drx, run_xd, run_xq, run_xg, run_xb, EV1, EV2, EV3, EV4, EV5, EV6, addT, istep, lenR_sl, lenR_ns, lenR_es, pickR, putD, bin1R, un1R, slcR, bnd, capsOf, fillP, S_plain, V_plain, V.cells, S_known, V_known, C.v, blk, setL, setH, eqS, eq1, cmpS, cmp1, isNil, popTo, killT, setT, leT, V.below, C.below, S_below, R.below, V.val, C.val, S_val, R.val, R.takes, vals, shows, List.any_cons, List.any_nil, unnamed, V.kill, V.names, C.names, S_names, R.names, List.set, List.replicate, ↓q_cond_t, ↓q_cond_f, if_true, if_false, reduceCtorEq, rvals, rvC, result, C_known, V.noL, C.noL, S_noL, R.noL, Option.map, true_and, and_true, ge_iff_le, gt_iff_lt, implies_true, q_ite_t, q_ite_f, beq_iff_eq, bne_iff_ne, q_ne, Nat.reduceAdd, Nat.reducePow, Int.reducePow, Nat.reduceMul, Nat.reduceSub, Nat.reduceLeDiff, Nat.reduceLT, Nat.reduceEqDiff, Int.reduceNeg, Int.reduceLT, Int.reduceLE, Int.reduceEq, Int.reduceNe, Int.reduceAdd, Int.reduceSub, Int.reduceMul, Int.reduceToNat, Int.reduceBEq, Int.reduceBNe, hM'l]
            all_goals try simp
          · simp (config := { maxSteps := 10000000 }) only [run_drx, run_xd, run_xq, run_xg, run_xb, EV1, EV2, EV3, EV4, EV5, EV6, addT, istep, lenR_sl, lenR_ns, lenR_es, pickR, putD, bin1R, un1R, slcR, bnd, capsOf, fillP, S_plain, V_plain, V.cells, S_known, V_known, C.v, blk, setL, setH, eqS, eq1, cmpS, cmp1, isNil, popTo, killT, setT, leT, V.below, C.below, S_below, R.below, V.val, C.val, S_val, R.val, R.takes, vals, shows, List.any_cons, List.any_nil, unnamed, V.kill, V.names, C.names, S_names, R.names, List.set, List.replicate, ↓q_cond_t, ↓q_cond_f, if_true, if_false, reduceCtorEq, rvals, rvC, result, C_known, V.noL, C.noL, S_noL, R.noL, Option.map, true_and, and_true, ge_iff_le, gt_iff_lt, implies_true, q_ite_t, q_ite_f, beq_iff_eq, bne_iff_ne, q_ne, Nat.reduceAdd, Nat.reducePow, Int.reducePow, Nat.reduceMul, Nat.reduceSub, Nat.reduceLeDiff, Nat.reduceLT, Nat.reduceEqDiff, Int.reduceNeg, Int.reduceLT, Int.reduceLE, Int.reduceEq, Int.reduceNe, Int.reduceAdd, Int.reduceSub, Int.reduceMul, Int.reduceToNat, Int.reduceBEq, Int.reduceBNe]
          · simp only [List.all_cons, List.all_nil, List.length_cons, List.length_nil, Bool.and_true]
            exact hk3
      | false =>
        cases M with
        | nil =>
          simp only [slT, lsT]
          refine run_sound (Tab.ok_Γ _) 200 _ _ _ _ ?_
          simp (config := { maxSteps := 10000000 }) only [run_drx, run_xd, run_xq, run_xg, run_xb, EV1, EV2, EV3, EV4, EV5, EV6, addT, istep, lenR_sl, lenR_ns, lenR_es, pickR, putD, bin1R, un1R, slcR, bnd, capsOf, fillP, S_plain, V_plain, V.cells, S_known, V_known, C.v, blk, setL, setH, eqS, eq1, cmpS, cmp1, isNil, popTo, killT, setT, leT, V.below, C.below, S_below, R.below, V.val, C.val, S_val, R.val, R.takes, vals, shows, List.any_cons, List.any_nil, unnamed, V.kill, V.names, C.names, S_names, R.names, List.set, List.replicate, ↓q_cond_t, ↓q_cond_f, if_true, if_false, reduceCtorEq, rvals, rvC, result, C_known, V.noL, C.noL, S_noL, R.noL, Option.map, true_and, and_true, ge_iff_le, gt_iff_lt, implies_true, q_ite_t, q_ite_f, beq_iff_eq, bne_iff_ne, q_ne, Nat.reduceAdd, Nat.reducePow, Int.reducePow, Nat.reduceMul, Nat.reduceSub, Nat.reduceLeDiff, Nat.reduceLT, Nat.reduceEqDiff, Int.reduceNeg, Int.reduceLT, Int.reduceLE, Int.reduceEq, Int.reduceNe, Int.reduceAdd, Int.reduceSub, Int.reduceMul, Int.reduceToNat, Int.reduceBEq, Int.reduceBNe, I, E, hk, hst, W2, getG, hwu, hf]
          rw [hf, Bool.false_and] at hpb
          exact hS.2 hpb
        | cons y M =>
          simp only [slT, lsT]
          refine run_sound (Tab.ok_Γ _) 200 _ _ _ _ ?_
          simp (config := { maxSteps := 10000000 }) only [run_drx, run_xd, run_xq, run_xg, run_xb, EV1, EV2, EV3, EV4, EV5, EV6, addT, istep, lenR_sl, lenR_ns, lenR_es, pickR, putD, bin1R, un1R, slcR, bnd, capsOf, fillP, S_plain, V_plain, V.cells, S_known, V_known, C.v, blk, setL, setH, eqS, eq1, cmpS, cmp1, isNil, popTo, killT, setT, leT, V.below, C.below, S_below, R.below, V.val, C.val, S_val, R.val, R.takes, vals, shows, List.any_cons, List.any_nil, unnamed, V.kill, V.names, C.names, S_names, R.names, List.set, List.replicate, ↓q_cond_t, ↓q_cond_f, if_true, if_false, reduceCtorEq, rvals, rvC, result, C_known, V.noL, C.noL, S_noL, R.noL, Option.map, true_and, and_true, ge_iff_le, gt_iff_lt, implies_true, q_ite_t, q_ite_f, beq_iff_eq, bne_iff_ne, q_ne, Nat.reduceAdd, Nat.reducePow, Int.reducePow, Nat.reduceMul, Nat.reduceSub, Nat.reduceLeDiff, Nat.reduceLT, Nat.reduceEqDiff, Int.reduceNeg, Int.reduceLT, Int.reduceLE, Int.reduceEq, Int.reduceNe, Int.reduceAdd, Int.reduceSub, Int.reduceMul, Int.reduceToNat, Int.reduceBEq, Int.reduceBNe, I, E, hk, hst, W2, getG, hwu, hf]
          rw [hf, Bool.false_and] at hpb
          exact hS.2 hpb
    · have : i = n := by omega
      subst this
      have hdn : F.drop i = [] := List.drop_eq_nil_of_le (by omega)
      rw [hdn] at hpb hpv
      simp only [unpackB, unpackV, List.append_nil] at hpb hpv
      have m2 : min a IntKind.u64.bits = a := by show min a 64 = _; omega
      have a0 : (0 : Int) ≤ a := by omega
      cases M with
      | nil =>
        simp only [slT, lsT]
        refine run_sound (Tab.ok_Γ _) 100 _ _ _ _ ?_
        simp (config := { maxSteps := 10000000 }) only [run_drx, run_xd, run_xq, run_xg, run_xb, EV1, EV2, EV3, EV4, EV5, EV6, addT, istep, lenR_sl, lenR_ns, lenR_es, pickR, putD, bin1R, un1R, slcR, bnd, capsOf, fillP, S_plain, V_plain, V.cells, S_known, V_known, C.v, blk, setL, setH, eqS, eq1, cmpS, cmp1, isNil, popTo, killT, setT, leT, V.below, C.below, S_below, R.below, V.val, C.val, S_val, R.val, R.takes, vals, shows, List.any_cons, List.any_nil, unnamed, V.kill, V.names, C.names, S_names, R.names, List.set, List.replicate, ↓q_cond_t, ↓q_cond_f, if_true, if_false, reduceCtorEq, rvals, rvC, result, C_known, V.noL, C.noL, S_noL, R.noL, Option.map, true_and, and_true, ge_iff_le, gt_iff_lt, implies_true, q_ite_t, q_ite_f, beq_iff_eq, bne_iff_ne, q_ne, Nat.reduceAdd, Nat.reducePow, Int.reducePow, Nat.reduceMul, Nat.reduceSub, Nat.reduceLeDiff, Nat.reduceLT, Nat.reduceEqDiff, Int.reduceNeg, Int.reduceLT, Int.reduceLE, Int.reduceEq, Int.reduceNe, Int.reduceAdd, Int.reduceSub, Int.reduceMul, Int.reduceToNat, Int.reduceBEq, Int.reduceBNe, Int.lt_irrefl, m2, a0]
        rw [hpb, hpv, div_dec] at hS
        simp only [decide_eq_true_eq, decide_eq_false_iff_not] at hS
        exact ⟨hS.2, hS.1⟩
      | cons y M =>
        simp only [slT, lsT]
        refine run_sound (Tab.ok_Γ _) 100 _ _ _ _ ?_
        simp (config := { maxSteps := 10000000 }) only [run_drx, run_xd, run_xq, run_xg, run_xb, EV1, EV2, EV3, EV4, EV5, EV6, addT, istep, lenR_sl, lenR_ns, lenR_es, pickR, putD, bin1R, un1R, slcR, bnd, capsOf, fillP, S_plain, V_plain, V.cells, S_known, V_known, C.v, blk, setL, setH, eqS, eq1, cmpS, cmp1, isNil, popTo, killT, setT, leT, V.below, C.below, S_below, R.below, V.val, C.val, S_val, R.val, R.takes, vals, shows, List.any_cons, List.any_nil, unnamed, V.kill, V.names, C.names, S_names, R.names, List.set, List.replicate, ↓q_cond_t, ↓q_cond_f, if_true, if_false, reduceCtorEq, rvals, rvC, result, C_known, V.noL, C.noL, S_noL, R.noL, Option.map, true_and, and_true, ge_iff_le, gt_iff_lt, implies_true, q_ite_t, q_ite_f, beq_iff_eq, bne_iff_ne, q_ne, Nat.reduceAdd, Nat.reducePow, Int.reducePow, Nat.reduceMul, Nat.reduceSub, Nat.reduceLeDiff, Nat.reduceLT, Nat.reduceEqDiff, Int.reduceNeg, Int.reduceLT, Int.reduceLE, Int.reduceEq, Int.reduceNe, Int.reduceAdd, Int.reduceSub, Int.reduceMul, Int.reduceToNat, Int.reduceBEq, Int.reduceBNe, Int.lt_irrefl, m2, a0]
        rw [hpb, hpv, div_dec] at hS
        simp only [decide_eq_true_eq, decide_eq_false_iff_not] at hS
        exact ⟨hS.2, fun e => words_leave (by simpa using hMc) (hS.1 e)⟩

theorem unpack4_snd : Snd Tryd.prog 16 (FSpec.of unpack4G) := snd_run W2_snd mixed Tryd.func16 dc16 100 fun args h K hc hS => by
  unfold unpack4G at hS
  split at hS
  · rename_i w s
    split at hS
    · rename_i L hL0
      have hP := preOf_some hL0
      obtain ⟨⟨hw, hn64⟩, hS⟩ := hS
      obtain ⟨w, rfl, hw'⟩ := hw.nat
      rcases hP with ⟨rfl | ⟨a, c', rfl⟩, rfl⟩ | ⟨j, c', st, M, room, rfl, e1, e2⟩
      · simp only [spec_br, spec_ok, unpackB, unpackV, wordsR, pairV, decide_eq_true_eq, decide_eq_false_iff_not] at hS
        simp (config := { maxSteps := 10000000 }) only [run_drx, run_xd, run_xq, run_xg, run_xb, EV1, EV2, EV3, EV4, EV5, EV6, addT, istep, lenR_sl, lenR_ns, lenR_es, pickR, putD, bin1R, un1R, slcR, bnd, capsOf, fillP, S_plain, V_plain, V.cells, S_known, V_known, C.v, blk, setL, setH, eqS, eq1, cmpS, cmp1, isNil, popTo, killT, setT, leT, V.below, C.below, S_below, R.below, V.val, C.val, S_val, R.val, R.takes, vals, shows, List.any_cons, List.any_nil, unnamed, V.kill, V.names, C.names, S_names, R.names, List.set, List.replicate, ↓q_cond_t, ↓q_cond_f, if_true, if_false, reduceCtorEq, rvals, rvC, result, C_known, V.noL, C.noL, S_noL, R.noL, Option.map, true_and, and_true, ge_iff_le, gt_iff_lt, implies_true, q_ite_t, q_ite_f, beq_iff_eq, bne_iff_ne, q_ne, Nat.reduceAdd, Nat.reducePow, Int.reducePow, Nat.reduceMul, Nat.reduceSub, Nat.reduceLeDiff, Nat.reduceLT, Nat.reduceEqDiff, Int.reduceNeg, Int.reduceLT, Int.reduceLE, Int.reduceEq, Int.reduceNe, Int.reduceAdd, Int.reduceSub, Int.reduceMul, Int.reduceToNat, Int.reduceBEq, Int.reduceBNe, df16]
        refine loop_rule (α := Unit) [] (fun _ => []) (fun _ => []) (fun _ => h) (fun _ => True) (fun _ => 0) () trivial .refl ?_
        rintro X _ _ _
        refine run_sound (Tab.ok_Γ _) 100 _ _ _ _ ?_
        simp (config := { maxSteps := 10000000 }) only [run_drx, run_xd, run_xq, run_xg, run_xb, EV1, EV2, EV3, EV4, EV5, EV6, addT, istep, lenR_sl, lenR_ns, lenR_es, pickR, putD, bin1R, un1R, slcR, bnd, capsOf, fillP, S_plain, V_plain, V.cells, S_known, V_known, C.v, blk, setL, setH, eqS, eq1, cmpS, cmp1, isNil, popTo, killT, setT, leT, V.below, C.below, S_below, R.below, V.val, C.val, S_val, R.val, R.takes, vals, shows, List.any_cons, List.any_nil, unnamed, V.kill, V.names, C.names, S_names, R.names, List.set, List.replicate, ↓q_cond_t, ↓q_cond_f, if_true, if_false, reduceCtorEq, rvals, rvC, result, C_known, V.noL, C.noL, S_noL, R.noL, Option.map, true_and, and_true, ge_iff_le, gt_iff_lt, implies_true, q_ite_t, q_ite_f, beq_iff_eq, bne_iff_ne, q_ne, Nat.reduceAdd, Nat.reducePow, Int.reducePow, Nat.reduceMul, Nat.reduceSub, Nat.reduceLeDiff, Nat.reduceLT, Nat.reduceEqDiff, Int.reduceNeg, Int.reduceLT, Int.reduceLE, Int.reduceEq, Int.reduceNe, Int.reduceAdd, Int.reduceSub, Int.reduceMul, Int.reduceToNat, Int.reduceBEq, Int.reduceBNe, Int.lt_irrefl]
        have m2 : min 0 IntKind.u64.bits = 0 := rfl
        simp only [m2, Int.reducePow, Int.ediv_one]
        have z : (w : Int).toNat / 2 ^ (0 : Int).toNat = w := by simp
        rw [z] at hS
        exact ⟨fun e => hS.2 (by omega), fun e => hS.1 (by omega)⟩
      · simp only [spec_br, spec_ok, unpackB, unpackV, wordsR, pairV, decide_eq_true_eq, decide_eq_false_iff_not] at hS
        simp (config := { maxSteps := 10000000 }) only [run_drx, run_xd, run_xq, run_xg, run_xb, EV1, EV2, EV3, EV4, EV5, EV6, addT, istep, lenR_sl, lenR_ns, lenR_es, pickR, putD, bin1R, un1R, slcR, bnd, capsOf, fillP, S_plain, V_plain, V.cells, S_known, V_known, C.v, blk, setL, setH, eqS, eq1, cmpS, cmp1, isNil, popTo, killT, setT, leT, V.below, C.below, S_below, R.below, V.val, C.val, S_val, R.val, R.takes, vals, shows, List.any_cons, List.any_nil, unnamed, V.kill, V.names, C.names, S_names, R.names, List.set, List.replicate, ↓q_cond_t, ↓q_cond_f, if_true, if_false, reduceCtorEq, rvals, rvC, result, C_known, V.noL, C.noL, S_noL, R.noL, Option.map, true_and, and_true, ge_iff_le, gt_iff_lt, implies_true, q_ite_t, q_ite_f, beq_iff_eq, bne_iff_ne, q_ne, Nat.reduceAdd, Nat.reducePow, Int.reducePow, Nat.reduceMul, Nat.reduceSub, Nat.reduceLeDiff, Nat.reduceLT, Nat.reduceEqDiff, Int.reduceNeg, Int.reduceLT, Int.reduceLE, Int.reduceEq, Int.reduceNe, Int.reduceAdd, Int.reduceSub, Int.reduceMul, Int.reduceToNat, Int.reduceBEq, Int.reduceBNe, df16]
        refine loop_rule (α := Unit) [] (fun _ => []) (fun _ => []) (fun _ => h) (fun _ => True) (fun _ => 0) () trivial .refl ?_
        rintro X _ _ _
        refine run_sound (Tab.ok_Γ _) 100 _ _ _ _ ?_
        simp (config := { maxSteps := 10000000 }) only [run_drx, run_xd, run_xq, run_xg, run_xb, EV1, EV2, EV3, EV4, EV5, EV6, addT, istep, lenR_sl, lenR_ns, lenR_es, pickR, putD, bin1R, un1R, slcR, bnd, capsOf, fillP, S_plain, V_plain, V.cells, S_known, V_known, C.v, blk, setL, setH, eqS, eq1, cmpS, cmp1, isNil, popTo, killT, setT, leT, V.below, C.below, S_below, R.below, V.val, C.val, S_val, R.val, R.takes, vals, shows, List.any_cons, List.any_nil, unnamed, V.kill, V.names, C.names, S_names, R.names, List.set, List.replicate, ↓q_cond_t, ↓q_cond_f, if_true, if_false, reduceCtorEq, rvals, rvC, result, C_known, V.noL, C.noL, S_noL, R.noL, Option.map, true_and, and_true, ge_iff_le, gt_iff_lt, implies_true, q_ite_t, q_ite_f, beq_iff_eq, bne_iff_ne, q_ne, Nat.reduceAdd, Nat.reducePow, Int.reducePow, Nat.reduceMul, Nat.reduceSub, Nat.reduceLeDiff, Nat.reduceLT, Nat.reduceEqDiff, Int.reduceNeg, Int.reduceLT, Int.reduceLE, Int.reduceEq, Int.reduceNe, Int.reduceAdd, Int.reduceSub, Int.reduceMul, Int.reduceToNat, Int.reduceBEq, Int.reduceBNe, Int.lt_irrefl]
        have m2 : min 0 IntKind.u64.bits = 0 := rfl
        simp only [m2, Int.reducePow, Int.ediv_one]
        have z : (w : Int).toNat / 2 ^ (0 : Int).toNat = w := by simp
        rw [z] at hS
        exact ⟨fun e => hS.2 (by omega), fun e => hS.1 (by omega)⟩
      · have ht : (L ++ M).take L.length = L := by simp
        exact unpack_loop4 (L := L ++ M) hw' e1 e2 rfl (by simp) hn64 hc (by rw [ht]; exact hS)
    · exact hS.elim
  · exact hS.elim

theorem runpack_loop4 {h : List Blk} {K : V → List Blk → Prop} {k n c0 : Nat} {w : Nat} {B : Blk} {L : List Int} (hw : w < 18446744073709551616) (hk : h[k]? = some B) (hst0 : n ≠ 0 → B.st ≠ .dead) (hB : B.cells = arr Ic L) (hn : n ≤ L.length) (hn64 : n ≤ 9223372036854775807) (hc : clean h.length h = true)
    (hS : (Res.br (unpackB (w : Int) (L.take n) 0) (wordsR (unpackV (w : Int) (L.take n) 0) (pairV 0) h) (.ok (.tup [.s .ns, .s (.i .i64 10)]) [] h)).spec K) :
    holds B8.Γ h.length (finP df15.res K) (run B8 100 [.c df15.body] ([V.s (.i .u64 w), V.s (.sl (.g k) 0 n c0)] ++ List.replicate 47 (.tup [])) [] h) := by
  simp only [spec_br, spec_ok] at hS
  obtain ⟨F, hF⟩ : ∃ F, F = L.take n := ⟨_, rfl⟩
  have hFl : F.length = n := by rw [hF]; simp; omega
  rw [← hF] at hS
  have hwu := u64_of hw
  simp (config := { maxSteps := 10000000 }) only [run_drx, run_xd, run_xq, run_xg, run_xb, EV1, EV2, EV3, EV4, EV5, EV6, addT, istep, lenR_sl, lenR_ns, lenR_es, pickR, putD, bin1R, un1R, slcR, bnd, capsOf, fillP, S_plain, V_plain, V.cells, S_known, V_known, C.v, blk, setL, setH, eqS, eq1, cmpS, cmp1, isNil, popTo, killT, setT, leT, V.below, C.below, S_below, R.below, V.val, C.val, S_val, R.val, R.takes, vals, shows, List.any_cons, List.any_nil, unnamed, V.kill, V.names, C.names, S_names, R.names, List.set, List.replicate, ↓q_cond_t, ↓q_cond_f, if_true, if_false, reduceCtorEq, rvals, rvC, result, C_known, V.noL, C.noL, S_noL, R.noL, Option.map, true_and, and_true, ge_iff_le, gt_iff_lt, implies_true, q_ite_t, q_ite_f, beq_iff_eq, bne_iff_ne, q_ne, Nat.reduceAdd, Nat.reducePow, Int.reducePow, Nat.reduceMul, Nat.reduceSub, Nat.reduceLeDiff, Nat.reduceLT, Nat.reduceEqDiff, Int.reduceNeg, Int.reduceLT, Int.reduceLE, Int.reduceEq, Int.reduceNe, Int.reduceAdd, Int.reduceSub, Int.reduceMul, Int.reduceToNat, Int.reduceBEq, Int.reduceBNe, df15]
  refine loop_rule (α := Nat × Nat × List Int × Nat) [4, 5, 6, 7, 8, 9, 10, 11, 12, 13, 14, 15, 16, 17, 18, 19, 20, 21, 22, 23, 24, 25, 26, 27, 28, 29, 30, 31, 32, 33, 34, 35, 36, 37, 38, 39] (fun y => [(6, slT y.2.2.1 y.2.2.2), (7, .s (.i .i64 y.2.1)), (8, .s (.i .i64 y.1))]) (fun y => lsT y.2.2.1 y.2.2.2) (fun _ => h)
    (fun y => y.1 ≤ n ∧ y.2.1 ≤ 64 ∧ y.2.2.1.length = y.1 ∧ y.1 ≤ y.2.1 ∧ y.2.2.1.length ≤ y.2.2.2 ∧ unpackB w F 0 = unpackB w (F.drop y.1) y.2.1 ∧ unpackV w F 0 = y.2.2.1 ++ unpackV w (F.drop y.1) y.2.1) (fun y => n - y.1) (0, 0, [], 0) ⟨by simp, by simp, rfl, by simp, by simp, by simp, by simp⟩ (Wk.same rfl rfl ?_) ?_
  · simp (config := { maxSteps := 10000000 }) only [run_drx, run_xd, run_xq, run_xg, run_xb, EV1, EV2, EV3, EV4, EV5, EV6, addT, istep, lenR_sl, lenR_ns, lenR_es, pickR, putD, bin1R, un1R, slcR, bnd, capsOf, fillP, S_plain, V_plain, V.cells, S_known, V_known, C.v, blk, setL, setH, eqS, eq1, cmpS, cmp1, isNil, popTo, killT, setT, leT, V.below, C.below, S_below, R.below, V.val, C.val, S_val, R.val, R.takes, vals, shows, List.any_cons, List.any_nil, unnamed, V.kill, V.names, C.names, S_names, R.names, List.set, List.replicate, ↓q_cond_t, ↓q_cond_f, if_true, if_false, reduceCtorEq, rvals, rvC, result, C_known, V.noL, C.noL, S_noL, R.noL, Option.map, true_and, and_true, ge_iff_le, gt_iff_lt, implies_true, q_ite_t, q_ite_f, beq_iff_eq, bne_iff_ne, q_ne, Nat.reduceAdd, Nat.reducePow, Int.reducePow, Nat.reduceMul, Nat.reduceSub, Nat.reduceLeDiff, Nat.reduceLT, Nat.reduceEqDiff, Int.reduceNeg, Int.reduceLT, Int.reduceLE, Int.reduceEq, Int.reduceNe, Int.reduceAdd, Int.reduceSub, Int.reduceMul, Int.reduceToNat, Int.reduceBEq, Int.reduceBNe, Int.natCast_zero, slT]
  · rintro X ⟨i, a, M, c⟩ ⟨hi, ha, hM, hia, hMc, hpb, hpv⟩ IH
    simp only at hi ha hM hia hMc hpb hpv ⊢
    rcases Nat.lt_or_ge i n with hlt | hge
    · have I := idx hlt hn64
      have hst := hst0 (by omega)
      have hiL : i < L.length := by omega
      obtain ⟨b, hb⟩ : ∃ b, b = nth 0 L i := ⟨_, rfl⟩
      have E : B.cells[i]? = some (.i .i64 b) := by
        have := arr_get0 Ic_len hiL (by omega)
        rw [Nat.mul_one] at this
        rw [hB, this, hb, nth_eq hiL]; rfl
      have hd : F.drop i = b :: F.drop (i + 1) := by
        rw [List.drop_eq_getElem_cons (by omega), hb, nth_eq hiL]
        congr 1
        subst hF; simp
      rw [hd] at hpb hpv
      simp only [unpackB, unpackV] at hpb hpv
      cases hf : fieldB (a : Int) b with
      | true =>
        obtain ⟨a', m, e1, e2, h1, h2, h3⟩ := fieldB_nat hf
        have : a' = a := by omega
        subst this
        have hwr : IntKind.i64.wrap ((a' : Int) + b) = ((a' + m : Nat) : Int) := by rw [wrap64] <;> omega
        have hpb' : unpackB w F 0 = unpackB w (F.drop (i + 1)) ((a' + m : Nat) : Int) := by rw [hpb, hf, Bool.true_and, e2]; rfl
        cases M with
        | nil =>
          have hkl : k < h.length := (List.getElem?_eq_some_iff.1 hk).1
          simp only [slT, lsT]
          refine run_sound (Tab.ok_Γ _) 200 _ _ _ _ ?_
          simp (config := { maxSteps := 10000000 }) only [run_drx, run_xd, run_xq, run_xg, run_xb, EV1, EV2, EV3, EV4, EV5, EV6, addT, istep, lenR_sl, lenR_ns, lenR_es, pickR, putD, bin1R, un1R, slcR, bnd, capsOf, fillP, S_plain, V_plain, V.cells, S_known, V_known, C.v, blk, setL, setH, eqS, eq1, cmpS, cmp1, isNil, popTo, killT, setT, leT, V.below, C.below, S_below, R.below, V.val, C.val, S_val, R.val, R.takes, vals, shows, List.any_cons, List.any_nil, unnamed, V.kill, V.names, C.names, S_names, R.names, List.set, List.replicate, ↓q_cond_t, ↓q_cond_f, if_true, if_false, reduceCtorEq, rvals, rvC, result, C_known, V.noL, C.noL, S_noL, R.noL, Option.map, true_and, and_true, ge_iff_le, gt_iff_lt, implies_true, q_ite_t, q_ite_f, beq_iff_eq, bne_iff_ne, q_ne, Nat.reduceAdd, Nat.reducePow, Int.reducePow, Nat.reduceMul, Nat.reduceSub, Nat.reduceLeDiff, Nat.reduceLT, Nat.reduceEqDiff, Int.reduceNeg, Int.reduceLT, Int.reduceLE, Int.reduceEq, Int.reduceNe, Int.reduceAdd, Int.reduceSub, Int.reduceMul, Int.reduceToNat, Int.reduceBEq, Int.reduceBNe, I, E, hk, hst, B8, getG, hwu, hf, hwr]
          intro c' hc'
          refine IH (i + 1, a' + m, [getV w a' b], c') _ (by simp only; omega) ⟨by simp only; omega, h3, by simp at hM ⊢; omega, by simp only; omega, by simpa using hc', hpb', ?_⟩ (Wk.shift 1 ?_ (Nat.le_refl _) ?_ ?_ hc ?_ (clean_ren hc 1))
          · rw [hpv, e2]; rfl
          · simp [lsT, arr, Uc, Blk.ren, S.ren]
          · simp (config := { maxSteps := 10000000 }) only [run_drx, run_xd, run_xq, run_xg, run_xb, EV1, EV2, EV3, EV4, EV5, EV6, addT, istep, lenR_sl, lenR_ns, lenR_es, pickR, putD, bin1R, un1R, slcR, bnd, capsOf, fillP, S_plain, V_plain, V.cells, S_known, V_known, C.v, blk, setL, setH, eqS, eq1, cmpS, cmp1, isNil, popTo, killT, setT, leT, V.below, C.below, S_below, R.below, V.val, C.val, S_val, R.val, R.takes, vals, shows, List.any_cons, List.any_nil, unnamed, V.kill, V.names, C.names, S_names, R.names, List.set, List.replicate, ↓q_cond_t, ↓q_cond_f, if_true, if_false, reduceCtorEq, rvals, rvC, result, C_known, V.noL, C.noL, S_noL, R.noL, Option.map, true_and, and_true, ge_iff_le, gt_iff_lt, implies_true, q_ite_t, q_ite_f, beq_iff_eq, bne_iff_ne, q_ne, Nat.reduceAdd, Nat.reducePow, Int.reducePow, Nat.reduceMul, Nat.reduceSub, Nat.reduceLeDiff, Nat.reduceLT, Nat.reduceEqDiff, Int.reduceNeg, Int.reduceLT, Int.reduceLE, Int.reduceEq, Int.reduceNe, Int.reduceAdd, Int.reduceSub, Int.reduceMul, Int.reduceToNat, Int.reduceBEq, Int.reduceBNe, slT, V.ren, S.ren, R.shift, Nat.add_comm]
          · simp (config := { maxSteps := 10000000 }) only [run_drx, run_xd, run_xq, run_xg, run_xb, EV1, EV2, EV3, EV4, EV5, EV6, addT, istep, lenR_sl, lenR_ns, lenR_es, pickR, putD, bin1R, un1R, slcR, bnd, capsOf, fillP, S_plain, V_plain, V.cells, S_known, V_known, C.v, blk, setL, setH, eqS, eq1, cmpS, cmp1, isNil, popTo, killT, setT, leT, V.below, C.below, S_below, R.below, V.val, C.val, S_val, R.val, R.takes, vals, shows, List.any_cons, List.any_nil, unnamed, V.kill, V.names, C.names, S_names, R.names, List.set, List.replicate, ↓q_cond_t, ↓q_cond_f, if_true, if_false, reduceCtorEq, rvals, rvC, result, C_known, V.noL, C.noL, S_noL, R.noL, Option.map, true_and, and_true, ge_iff_le, gt_iff_lt, implies_true, q_ite_t, q_ite_f, beq_iff_eq, bne_iff_ne, q_ne, Nat.reduceAdd, Nat.reducePow, Int.reducePow, Nat.reduceMul, Nat.reduceSub, Nat.reduceLeDiff, Nat.reduceLT, Nat.reduceEqDiff, Int.reduceNeg, Int.reduceLT, Int.reduceLE, Int.reduceEq, Int.reduceNe, Int.reduceAdd, Int.reduceSub, Int.reduceMul, Int.reduceToNat, Int.reduceBEq, Int.reduceBNe, slT, lsT, hkl]
          · simp (config := { maxSteps := 10000000 }) only [run_drx, run_xd, run_xq, run_xg, run_xb, EV1, EV2, EV3, EV4, EV5, EV6, addT, istep, lenR_sl, lenR_ns, lenR_es, pickR, putD, bin1R, un1R, slcR, bnd, capsOf, fillP, S_plain, V_plain, V.cells, S_known, V_known, C.v, blk, setL, setH, eqS, eq1, cmpS, cmp1, isNil, popTo, killT, setT, leT, V.below, C.below, S_below, R.below, V.val, C.val, S_val, R.val, R.takes, vals, shows, List.any_cons, List.any_nil, unnamed, V.kill, V.names, C.names, S_names, R.names, List.set, List.replicate, ↓q_cond_t, ↓q_cond_f, if_true, if_false, reduceCtorEq, rvals, rvC, result, C_known, V.noL, C.noL, S_noL, R.noL, Option.map, true_and, and_true, ge_iff_le, gt_iff_lt, implies_true, q_ite_t, q_ite_f, beq_iff_eq, bne_iff_ne, q_ne, Nat.reduceAdd, Nat.reducePow, Int.reducePow, Nat.reduceMul, Nat.reduceSub, Nat.reduceLeDiff, Nat.reduceLT, Nat.reduceEqDiff, Int.reduceNeg, Int.reduceLT, Int.reduceLE, Int.reduceEq, Int.reduceNe, Int.reduceAdd, Int.reduceSub, Int.reduceMul, Int.reduceToNat, Int.reduceBEq, Int.reduceBNe, lsT, arr, Uc, hkl, hst]
        | cons y M =>
          have hl := arr_length Uc_len (y :: M)
          have hk1 : known (arr Uc (y :: M)) = true := uc_all _ (fun _ => rfl) _
          have hk2 : ∀ k, ((arr Uc (y :: M)).all fun s => !S.names k s) = true := fun k => uc_all _ (fun _ => rfl) _
          have hMl : M.length + 1 = i := by simpa using hM
          have hroom : M.length + 1 ≤ 64 := by omega
          simp only [slT, lsT]
          refine run_sound (Tab.ok_Γ _) 200 _ _ _ _ ?_
          simp (config := { maxSteps := 10000000 }) only [run_drx, run_xd, run_xq, run_xg, run_xb, EV1, EV2, EV3, EV4, EV5, EV6, addT, istep, lenR_sl, lenR_ns, lenR_es, pickR, putD, bin1R, un1R, slcR, bnd, capsOf, fillP, S_plain, V_plain, V.cells, S_known, V_known, C.v, blk, setL, setH, eqS, eq1, cmpS, cmp1, isNil, popTo, killT, setT, leT, V.below, C.below, S_below, R.below, V.val, C.val, S_val, R.val, R.takes, vals, shows, List.any_cons, List.any_nil, unnamed, V.kill, V.names, C.names, S_names, R.names, List.set, List.replicate, ↓q_cond_t, ↓q_cond_f, if_true, if_false, reduceCtorEq, rvals, rvC, result, C_known, V.noL, C.noL, S_noL, R.noL, Option.map, true_and, and_true, ge_iff_le, gt_iff_lt, implies_true, q_ite_t, q_ite_f, beq_iff_eq, bne_iff_ne, q_ne, Nat.reduceAdd, Nat.reducePow, Int.reducePow, Nat.reduceMul, Nat.reduceSub, Nat.reduceLeDiff, Nat.reduceLT, Nat.reduceEqDiff, Int.reduceNeg, Int.reduceLT, Int.reduceLE, Int.reduceEq, Int.reduceNe, Int.reduceAdd, Int.reduceSub, Int.reduceMul, Int.reduceToNat, Int.reduceBEq, Int.reduceBNe, I, E, hk, hst, B8, getG, hwu, hf, hwr, hl, hk1, hk2]
          refine ⟨by omega, fun c' hc' => ?_⟩
          obtain ⟨M', hM'⟩ : ∃ M', M' = M ++ [getV w a' b] := ⟨_, rfl⟩
          have hM'l : M'.length = M.length + 1 := by rw [hM']; simp
          have hI : i + 1 ≤ n ∧ a' + m ≤ 64 ∧ (y :: M').length = i + 1 ∧ i + 1 ≤ a' + m ∧ (y :: M').length ≤ c' ∧ unpackB w F 0 = unpackB w (F.drop (i + 1)) ((a' + m : Nat) : Int) ∧ unpackV w F 0 = (y :: M') ++ unpackV w (F.drop (i + 1)) ((a' + m : Nat) : Int) := by
            refine ⟨by omega, h3, by simp only [List.length_cons]; omega, by omega, by simp only [List.length_cons]; omega, hpb', ?_⟩
            rw [hpv, hM', e2, Int.natCast_add, List.cons_append, List.cons_append, List.append_assoc]; rfl
          refine IH (i + 1, a' + m, y :: M', c') _ (by simp only; omega) hI ?_
          simp only [slT, lsT]
          have hc2 : arr Uc (y :: M) ++ [S.i .u64 (getV w a' b)] = arr Uc (y :: M') := by rw [hM']; simp [arr_append, arr, Uc]
          have hk3 : (arr Uc (y :: M')).all (S.below 1) = true := uc_all _ (fun _ => rfl) _
          refine Wk.keep 1 (by rw [hc2]; rfl) rfl ?_ ?_ ?_
          · simp (config := { maxSteps := 10000000 }) only [run_drx, run_xd, run_xq, run_xg, run_xb, EV1, EV2, EV3, EV4, EV5, EV6, addT, istep, lenR_sl, lenR_ns, lenR_es, pickR, putD, bin1R, un1R, slcR, bnd, capsOf, fillP, S_plain, V_plain, V.cells, S_known, V_known, C.v, blk, setL, setH, eqS, eq1, cmpS, cmp1, isNil, popTo, killT, setT, leT, V.below, C.below, S_below, R.below, V.val, C.val, S_val, R.val, R.takes, vals, shows, List.any_cons, List.any_nil, unnamed, V.kill, V.names, C.names, S_names, R.names, List.set, List.replicate, ↓q_cond_t, ↓q_cond_f, if_true, if_false, reduceCtorEq, rvals, rvC, result, C_known, V.noL, C.noL, S_noL, R.noL, Option.map, true_and, and_true, ge_iff_le, gt_iff_lt, implies_true, q_ite_t, q_ite_f, beq_iff_eq, bne_iff_ne, q_ne, Nat.reduceAdd, Nat.reducePow, Int.reducePow, Nat.reduceMul, Nat.reduceSub, Nat.reduceLeDiff, Nat.reduceLT, Nat.reduceEqDiff, Int.reduceNeg, Int.reduceLT, Int.reduceLE, Int.reduceEq, Int.reduceNe, Int.reduceAdd, Int.reduceSub, Int.reduceMul, Int.reduceToNat, Int.reduceBEq, Int.reduceBNe, hM'l]
            all_goals try simp
          · simp (config := { maxSteps := 10000000 }) only [run_drx, run_xd, run_xq, run_xg, run_xb, EV1, EV2, EV3, EV4, EV5, EV6, addT, istep, lenR_sl, lenR_ns, lenR_es, pickR, putD, bin1R, un1R, slcR, bnd, capsOf, fillP, S_plain, V_plain, V.cells, S_known, V_known, C.v, blk, setL, setH, eqS, eq1, cmpS, cmp1, isNil, popTo, killT, setT, leT, V.below, C.below, S_below, R.below, V.val, C.val, S_val, R.val, R.takes, vals, shows, List.any_cons, List.any_nil, unnamed, V.kill, V.names, C.names, S_names, R.names, List.set, List.replicate, ↓q_cond_t, ↓q_cond_f, if_true, if_false, reduceCtorEq, rvals, rvC, result, C_known, V.noL, C.noL, S_noL, R.noL, Option.map, true_and, and_true, ge_iff_le, gt_iff_lt, implies_true, q_ite_t, q_ite_f, beq_iff_eq, bne_iff_ne, q_ne, Nat.reduceAdd, Nat.reducePow, Int.reducePow, Nat.reduceMul, Nat.reduceSub, Nat.reduceLeDiff, Nat.reduceLT, Nat.reduceEqDiff, Int.reduceNeg, Int.reduceLT, Int.reduceLE, Int.reduceEq, Int.reduceNe, Int.reduceAdd, Int.reduceSub, Int.reduceMul, Int.reduceToNat, Int.reduceBEq, Int.reduceBNe]
          · simp only [List.all_cons, List.all_nil, List.length_cons, List.length_nil, Bool.and_true]
            exact hk3
      | false =>
        cases M with
        | nil =>
          simp only [slT, lsT]
          refine run_sound (Tab.ok_Γ _) 200 _ _ _ _ ?_
          simp (config := { maxSteps := 10000000 }) only [run_drx, run_xd, run_xq, run_xg, run_xb, EV1, EV2, EV3, EV4, EV5, EV6, addT, istep, lenR_sl, lenR_ns, lenR_es, pickR, putD, bin1R, un1R, slcR, bnd, capsOf, fillP, S_plain, V_plain, V.cells, S_known, V_known, C.v, blk, setL, setH, eqS, eq1, cmpS, cmp1, isNil, popTo, killT, setT, leT, V.below, C.below, S_below, R.below, V.val, C.val, S_val, R.val, R.takes, vals, shows, List.any_cons, List.any_nil, unnamed, V.kill, V.names, C.names, S_names, R.names, List.set, List.replicate, ↓q_cond_t, ↓q_cond_f, if_true, if_false, reduceCtorEq, rvals, rvC, result, C_known, V.noL, C.noL, S_noL, R.noL, Option.map, true_and, and_true, ge_iff_le, gt_iff_lt, implies_true, q_ite_t, q_ite_f, beq_iff_eq, bne_iff_ne, q_ne, Nat.reduceAdd, Nat.reducePow, Int.reducePow, Nat.reduceMul, Nat.reduceSub, Nat.reduceLeDiff, Nat.reduceLT, Nat.reduceEqDiff, Int.reduceNeg, Int.reduceLT, Int.reduceLE, Int.reduceEq, Int.reduceNe, Int.reduceAdd, Int.reduceSub, Int.reduceMul, Int.reduceToNat, Int.reduceBEq, Int.reduceBNe, I, E, hk, hst, B8, getG, hwu, hf]
          rw [hf, Bool.false_and] at hpb
          exact hS.2 hpb
        | cons y M =>
          simp only [slT, lsT]
          refine run_sound (Tab.ok_Γ _) 200 _ _ _ _ ?_
          simp (config := { maxSteps := 10000000 }) only [run_drx, run_xd, run_xq, run_xg, run_xb, EV1, EV2, EV3, EV4, EV5, EV6, addT, istep, lenR_sl, lenR_ns, lenR_es, pickR, putD, bin1R, un1R, slcR, bnd, capsOf, fillP, S_plain, V_plain, V.cells, S_known, V_known, C.v, blk, setL, setH, eqS, eq1, cmpS, cmp1, isNil, popTo, killT, setT, leT, V.below, C.below, S_below, R.below, V.val, C.val, S_val, R.val, R.takes, vals, shows, List.any_cons, List.any_nil, unnamed, V.kill, V.names, C.names, S_names, R.names, List.set, List.replicate, ↓q_cond_t, ↓q_cond_f, if_true, if_false, reduceCtorEq, rvals, rvC, result, C_known, V.noL, C.noL, S_noL, R.noL, Option.map, true_and, and_true, ge_iff_le, gt_iff_lt, implies_true, q_ite_t, q_ite_f, beq_iff_eq, bne_iff_ne, q_ne, Nat.reduceAdd, Nat.reducePow, Int.reducePow, Nat.reduceMul, Nat.reduceSub, Nat.reduceLeDiff, Nat.reduceLT, Nat.reduceEqDiff, Int.reduceNeg, Int.reduceLT, Int.reduceLE, Int.reduceEq, Int.reduceNe, Int.reduceAdd, Int.reduceSub, Int.reduceMul, Int.reduceToNat, Int.reduceBEq, Int.reduceBNe, I, E, hk, hst, B8, getG, hwu, hf]
          rw [hf, Bool.false_and] at hpb
          exact hS.2 hpb
    · have : i = n := by omega
      subst this
      have hdn : F.drop i = [] := List.drop_eq_nil_of_le (by omega)
      rw [hdn] at hpb hpv
      simp only [unpackB, unpackV, List.append_nil] at hpb hpv
      have m2 : min a IntKind.u64.bits = a := by show min a 64 = _; omega
      have a0 : (0 : Int) ≤ a := by omega
      have hz : ¬ ((a : Int) < 64 ∧ ¬ (w : Int) / 2 ^ a = 0) → (w : Int) / 2 ^ a = 0 := fun e => by
        by_cases h64 : (a : Int) < 64
        · exact Classical.byContradiction fun h' => e ⟨h64, h'⟩
        · have : a = 64 := by omega
          subst this
          omega
      cases M with
      | nil =>
        simp only [slT, lsT]
        refine run_sound (Tab.ok_Γ _) 100 _ _ _ _ ?_
        simp (config := { maxSteps := 10000000 }) only [run_drx, run_xd, run_xq, run_xg, run_xb, EV1, EV2, EV3, EV4, EV5, EV6, addT, istep, lenR_sl, lenR_ns, lenR_es, pickR, putD, bin1R, un1R, slcR, bnd, capsOf, fillP, S_plain, V_plain, V.cells, S_known, V_known, C.v, blk, setL, setH, eqS, eq1, cmpS, cmp1, isNil, popTo, killT, setT, leT, V.below, C.below, S_below, R.below, V.val, C.val, S_val, R.val, R.takes, vals, shows, List.any_cons, List.any_nil, unnamed, V.kill, V.names, C.names, S_names, R.names, List.set, List.replicate, ↓q_cond_t, ↓q_cond_f, if_true, if_false, reduceCtorEq, rvals, rvC, result, C_known, V.noL, C.noL, S_noL, R.noL, Option.map, true_and, and_true, ge_iff_le, gt_iff_lt, implies_true, q_ite_t, q_ite_f, beq_iff_eq, bne_iff_ne, q_ne, Nat.reduceAdd, Nat.reducePow, Int.reducePow, Nat.reduceMul, Nat.reduceSub, Nat.reduceLeDiff, Nat.reduceLT, Nat.reduceEqDiff, Int.reduceNeg, Int.reduceLT, Int.reduceLE, Int.reduceEq, Int.reduceNe, Int.reduceAdd, Int.reduceSub, Int.reduceMul, Int.reduceToNat, Int.reduceBEq, Int.reduceBNe, Int.lt_irrefl, m2, a0]
        rw [hpb, hpv, div_dec] at hS
        simp only [decide_eq_true_eq, decide_eq_false_iff_not] at hS
        exact ⟨fun e => hS.2 e.2, fun e => hS.1 (hz e)⟩
      | cons y M =>
        simp only [slT, lsT]
        refine run_sound (Tab.ok_Γ _) 100 _ _ _ _ ?_
        simp (config := { maxSteps := 10000000 }) only [run_drx, run_xd, run_xq, run_xg, run_xb, EV1, EV2, EV3, EV4, EV5, EV6, addT, istep, lenR_sl, lenR_ns, lenR_es, pickR, putD, bin1R, un1R, slcR, bnd, capsOf, fillP, S_plain, V_plain, V.cells, S_known, V_known, C.v, blk, setL, setH, eqS, eq1, cmpS, cmp1, isNil, popTo, killT, setT, leT, V.below, C.below, S_below, R.below, V.val, C.val, S_val, R.val, R.takes, vals, shows, List.any_cons, List.any_nil, unnamed, V.kill, V.names, C.names, S_names, R.names, List.set, List.replicate, ↓q_cond_t, ↓q_cond_f, if_true, if_false, reduceCtorEq, rvals, rvC, result, C_known, V.noL, C.noL, S_noL, R.noL, Option.map, true_and, and_true, ge_iff_le, gt_iff_lt, implies_true, q_ite_t, q_ite_f, beq_iff_eq, bne_iff_ne, q_ne, Nat.reduceAdd, Nat.reducePow, Int.reducePow, Nat.reduceMul, Nat.reduceSub, Nat.reduceLeDiff, Nat.reduceLT, Nat.reduceEqDiff, Int.reduceNeg, Int.reduceLT, Int.reduceLE, Int.reduceEq, Int.reduceNe, Int.reduceAdd, Int.reduceSub, Int.reduceMul, Int.reduceToNat, Int.reduceBEq, Int.reduceBNe, Int.lt_irrefl, m2, a0]
        rw [hpb, hpv, div_dec] at hS
        simp only [decide_eq_true_eq, decide_eq_false_iff_not] at hS
        exact ⟨fun e => hS.2 e.2, fun e => words_leave (by simpa using hMc) (hS.1 (hz e))⟩

theorem runpack4_snd : Snd Tryd.prog 15 (FSpec.of unpack4G) := snd_run B8_snd mixed Tryd.func15 dc15 100 fun args h K hc hS => by
  unfold unpack4G at hS
  split at hS
  · rename_i w s
    split at hS
    · rename_i L hL0
      have hP := preOf_some hL0
      obtain ⟨⟨hw, hn64⟩, hS⟩ := hS
      obtain ⟨w, rfl, hw'⟩ := hw.nat
      rcases hP with ⟨rfl | ⟨a, c', rfl⟩, rfl⟩ | ⟨j, c', st, M, room, rfl, e1, e2⟩
      · simp only [spec_br, spec_ok, unpackB, unpackV, wordsR, pairV, decide_eq_true_eq, decide_eq_false_iff_not] at hS
        simp (config := { maxSteps := 10000000 }) only [run_drx, run_xd, run_xq, run_xg, run_xb, EV1, EV2, EV3, EV4, EV5, EV6, addT, istep, lenR_sl, lenR_ns, lenR_es, pickR, putD, bin1R, un1R, slcR, bnd, capsOf, fillP, S_plain, V_plain, V.cells, S_known, V_known, C.v, blk, setL, setH, eqS, eq1, cmpS, cmp1, isNil, popTo, killT, setT, leT, V.below, C.below, S_below, R.below, V.val, C.val, S_val, R.val, R.takes, vals, shows, List.any_cons, List.any_nil, unnamed, V.kill, V.names, C.names, S_names, R.names, List.set, List.replicate, ↓q_cond_t, ↓q_cond_f, if_true, if_false, reduceCtorEq, rvals, rvC, result, C_known, V.noL, C.noL, S_noL, R.noL, Option.map, true_and, and_true, ge_iff_le, gt_iff_lt, implies_true, q_ite_t, q_ite_f, beq_iff_eq, bne_iff_ne, q_ne, Nat.reduceAdd, Nat.reducePow, Int.reducePow, Nat.reduceMul, Nat.reduceSub, Nat.reduceLeDiff, Nat.reduceLT, Nat.reduceEqDiff, Int.reduceNeg, Int.reduceLT, Int.reduceLE, Int.reduceEq, Int.reduceNe, Int.reduceAdd, Int.reduceSub, Int.reduceMul, Int.reduceToNat, Int.reduceBEq, Int.reduceBNe, df15]
        refine loop_rule (α := Unit) [] (fun _ => []) (fun _ => []) (fun _ => h) (fun _ => True) (fun _ => 0) () trivial .refl ?_
        rintro X _ _ _
        refine run_sound (Tab.ok_Γ _) 100 _ _ _ _ ?_
        simp (config := { maxSteps := 10000000 }) only [run_drx, run_xd, run_xq, run_xg, run_xb, EV1, EV2, EV3, EV4, EV5, EV6, addT, istep, lenR_sl, lenR_ns, lenR_es, pickR, putD, bin1R, un1R, slcR, bnd, capsOf, fillP, S_plain, V_plain, V.cells, S_known, V_known, C.v, blk, setL, setH, eqS, eq1, cmpS, cmp1, isNil, popTo, killT, setT, leT, V.below, C.below, S_below, R.below, V.val, C.val, S_val, R.val, R.takes, vals, shows, List.any_cons, List.any_nil, unnamed, V.kill, V.names, C.names, S_names, R.names, List.set, List.replicate, ↓q_cond_t, ↓q_cond_f, if_true, if_false, reduceCtorEq, rvals, rvC, result, C_known, V.noL, C.noL, S_noL, R.noL, Option.map, true_and, and_true, ge_iff_le, gt_iff_lt, implies_true, q_ite_t, q_ite_f, beq_iff_eq, bne_iff_ne, q_ne, Nat.reduceAdd, Nat.reducePow, Int.reducePow, Nat.reduceMul, Nat.reduceSub, Nat.reduceLeDiff, Nat.reduceLT, Nat.reduceEqDiff, Int.reduceNeg, Int.reduceLT, Int.reduceLE, Int.reduceEq, Int.reduceNe, Int.reduceAdd, Int.reduceSub, Int.reduceMul, Int.reduceToNat, Int.reduceBEq, Int.reduceBNe, Int.lt_irrefl]
        have m2 : min 0 IntKind.u64.bits = 0 := rfl
        simp only [m2, Int.reducePow, Int.ediv_one]
        have z : (w : Int).toNat / 2 ^ (0 : Int).toNat = w := by simp
        rw [z] at hS
        exact ⟨fun e => hS.2 (by omega), fun e => hS.1 (by omega)⟩
      · simp only [spec_br, spec_ok, unpackB, unpackV, wordsR, pairV, decide_eq_true_eq, decide_eq_false_iff_not] at hS
        simp (config := { maxSteps := 10000000 }) only [run_drx, run_xd, run_xq, run_xg, run_xb, EV1, EV2, EV3, EV4, EV5, EV6, addT, istep, lenR_sl, lenR_ns, lenR_es, pickR, putD, bin1R, un1R, slcR, bnd, capsOf, fillP, S_plain, V_plain, V.cells, S_known, V_known, C.v, blk, setL, setH, eqS, eq1, cmpS, cmp1, isNil, popTo, killT, setT, leT, V.below, C.below, S_below, R.below, V.val, C.val, S_val, R.val, R.takes, vals, shows, List.any_cons, List.any_nil, unnamed, V.kill, V.names, C.names, S_names, R.names, List.set, List.replicate, ↓q_cond_t, ↓q_cond_f, if_true, if_false, reduceCtorEq, rvals, rvC, result, C_known, V.noL, C.noL, S_noL, R.noL, Option.map, true_and, and_true, ge_iff_le, gt_iff_lt, implies_true, q_ite_t, q_ite_f, beq_iff_eq, bne_iff_ne, q_ne, Nat.reduceAdd, Nat.reducePow, Int.reducePow, Nat.reduceMul, Nat.reduceSub, Nat.reduceLeDiff, Nat.reduceLT, Nat.reduceEqDiff, Int.reduceNeg, Int.reduceLT, Int.reduceLE, Int.reduceEq, Int.reduceNe, Int.reduceAdd, Int.reduceSub, Int.reduceMul, Int.reduceToNat, Int.reduceBEq, Int.reduceBNe, df15]
        refine loop_rule (α := Unit) [] (fun _ => []) (fun _ => []) (fun _ => h) (fun _ => True) (fun _ => 0) () trivial .refl ?_
        rintro X _ _ _
        refine run_sound (Tab.ok_Γ _) 100 _ _ _ _ ?_
        simp (config := { maxSteps := 10000000 }) only [run_drx, run_xd, run_xq, run_xg, run_xb, EV1, EV2, EV3, EV4, EV5, EV6, addT, istep, lenR_sl, lenR_ns, lenR_es, pickR, putD, bin1R, un1R, slcR, bnd, capsOf, fillP, S_plain, V_plain, V.cells, S_known, V_known, C.v, blk, setL, setH, eqS, eq1, cmpS, cmp1, isNil, popTo, killT, setT, leT, V.below, C.below, S_below, R.below, V.val, C.val, S_val, R.val, R.takes, vals, shows, List.any_cons, List.any_nil, unnamed, V.kill, V.names, C.names, S_names, R.names, List.set, List.replicate, ↓q_cond_t, ↓q_cond_f, if_true, if_false, reduceCtorEq, rvals, rvC, result, C_known, V.noL, C.noL, S_noL, R.noL, Option.map, true_and, and_true, ge_iff_le, gt_iff_lt, implies_true, q_ite_t, q_ite_f, beq_iff_eq, bne_iff_ne, q_ne, Nat.reduceAdd, Nat.reducePow, Int.reducePow, Nat.reduceMul, Nat.reduceSub, Nat.reduceLeDiff, Nat.reduceLT, Nat.reduceEqDiff, Int.reduceNeg, Int.reduceLT, Int.reduceLE, Int.reduceEq, Int.reduceNe, Int.reduceAdd, Int.reduceSub, Int.reduceMul, Int.reduceToNat, Int.reduceBEq, Int.reduceBNe, Int.lt_irrefl]
        have m2 : min 0 IntKind.u64.bits = 0 := rfl
        simp only [m2, Int.reducePow, Int.ediv_one]
        have z : (w : Int).toNat / 2 ^ (0 : Int).toNat = w := by simp
        rw [z] at hS
        exact ⟨fun e => hS.2 (by omega), fun e => hS.1 (by omega)⟩
      · have ht : (L ++ M).take L.length = L := by simp
        exact runpack_loop4 (L := L ++ M) hw' e1 e2 rfl (by simp) hn64 hc (by rw [ht]; exact hS)
    · exact hS.elim
  · exact hS.elim

end Go.Proofs.YtmchhjjdlcmhoaaDoor

