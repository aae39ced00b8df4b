/- Cspace: Resolve, the document's Resolve. -/
import Derived.Test.YtdlloccodmdnnaaZ10
import Derived.Test.YtdlloccodmdnnaaZ23
/- Cspace: Resolve, the document's Resolve. -/
namespace Go.Proofs.Ytdlloccodmdnnaa
open Go.D
set_option linter.all false
set_option maxRecDepth 100000
set_option maxHeartbeats 8000000

def rslM (d : Bool) (b : Nat) (m : M) (st : M → List Blk) : List V → Res
  | [x, .s (.i .u64 w), .s (.i .i64 n)] => capF (fun c => .ob (u64 w) (.ok (rsl d m c w n).v [] (st (rsl d m c w n).m))) [x]
  | _ => .bad
noncomputable def rslG (d : Bool) := memF (rslM d)
theorem rsl_no {d : Bool} {m : M} {c : Cap} {w n : Int} (h : ¬ (c.ty = 2 ∧ rightB c = true)) : rsl d m c w n = ⟨0, 0, 100, m⟩ := by
  unfold rsl
  rw [if_pos]
  by_cases h1 : c.ty = 2
  · right; cases h2 : rightB c
    · rfl
    · exact absurd ⟨h1, h2⟩ h
  · exact .inl h1
theorem rsl_deep {d : Bool} {m : M} {c : Cap} {w n : Int} (h1 : c.ty = 2) (h2 : rightB c = true) (h : n < 1 ∨ 32 < n) : rsl d m c w n = ⟨0, 0, 101, m⟩ := by
  unfold rsl
  rw [if_neg (by simp [h1, h2]), if_pos h]
theorem rsl_way {d : Bool} {m : M} {c : Cap} {w n : Int} (h1 : c.ty = 2) (h2 : rightB c = true) (h : ¬ (n < 1 ∨ 32 < n)) : rsl d m c w n = way d w 32 m c n := by
  unfold rsl
  rw [if_neg (by simp [h1, h2]), if_neg h]

noncomputable def TCs : Tab := addT 55 rightG (addT 56 takeG (addT 57 get2G (addT 14 rightG (addT 59 bitsG (addT 58 get2G (noT))))))
theorem TCs_snd : TCs.Snd Try.prog := addT_snd ok55 right_snd (addT_snd ok56 take_snd (addT_snd ok57 get2_snd (addT_snd ok14 rright_snd (addT_snd ok59 rbits_snd (addT_snd ok58 rget2_snd ((noT_snd _)))))))
theorem rsl_snd : Snd Try.prog 16 (FSpec.of (rslG false)) := snd_run TCs_snd mixed Try.func16 dc16 400 fun args h K hc hS => by
  obtain ⟨a, b, m, rest, rfl, H, hS1⟩ := memF_spec hS
  clear hS
  have hS := hS1
  clear hS1
  unfold rslM at hS
  split at hS
  · rename_i x w n
    obtain ⟨c, e, hu, hR⟩ := capF_spec hS
    clear hS
    simp only [List.cons.injEq, and_true] at e
    subst e
    simp only [spec_ok] at hR
    by_cases ht : c.ty = 2
    case neg =>
      rw [rsl_no (fun x => ht x.1), setM_self H] at hR
      simp only [RW.v] at hR
      have ht' : (c.ty != 2) = true := by simpa using ht
      simp only [Cap.cl]
      simp (config := { maxSteps := 10000000 }) only [EV1, EV2, EV3, EV4, EV5, EV6, addT, istep, lenR_sl, lenR_ns, lenR_es, pickR, putD, bin1R, un1R, slcR, bnd, capsOf, fillP, S_plain, V_plain, V.cells, S_known, V_known, C.v, blk, setL, setH, eqS, eq1, cmpS, cmp1, isNil, popTo, killT, setT, leT, V.below, C.below, S_below, R.below, V.val, C.val, S_val, R.val, R.takes, vals, shows, List.any_cons, List.any_nil, unnamed, V.kill, V.names, C.names, S_names, R.names, List.set, List.replicate, ↓q_cond_t, ↓q_cond_f, if_true, if_false, reduceCtorEq, rvals, rvC, result, C_known, V.noL, C.noL, S_noL, R.noL, Option.map, true_and, and_true, ge_iff_le, gt_iff_lt, implies_true, q_ite_t, q_ite_f, beq_iff_eq, bne_iff_ne, q_ne, Nat.reduceAdd, Nat.reducePow, Int.reducePow, Nat.reduceMul, Nat.reduceSub, Nat.reduceLeDiff, Nat.reduceLT, Nat.reduceEqDiff, Int.reduceNeg, Int.reduceLT, Int.reduceLE, Int.reduceEq, Int.reduceNe, Int.reduceAdd, Int.reduceSub, Int.reduceMul, Int.reduceToNat, Int.reduceBEq, Int.reduceBNe, df16, TCs, ht']
      exact hR
    have ht' : (c.ty != 2) = false := by simpa using ht
    cases hr : rightB c with
    | false =>
      rw [rsl_no (fun x => by simp [hr] at x), setM_self H] at hR
      simp only [RW.v] at hR
      simp only [Cap.cl]
      simp (config := { maxSteps := 10000000 }) only [EV1, EV2, EV3, EV4, EV5, EV6, addT, istep, lenR_sl, lenR_ns, lenR_es, pickR, putD, bin1R, un1R, slcR, bnd, capsOf, fillP, S_plain, V_plain, V.cells, S_known, V_known, C.v, blk, setL, setH, eqS, eq1, cmpS, cmp1, isNil, popTo, killT, setT, leT, V.below, C.below, S_below, R.below, V.val, C.val, S_val, R.val, R.takes, vals, shows, List.any_cons, List.any_nil, unnamed, V.kill, V.names, C.names, S_names, R.names, List.set, List.replicate, ↓q_cond_t, ↓q_cond_f, if_true, if_false, reduceCtorEq, rvals, rvC, result, C_known, V.noL, C.noL, S_noL, R.noL, Option.map, true_and, and_true, ge_iff_le, gt_iff_lt, implies_true, q_ite_t, q_ite_f, beq_iff_eq, bne_iff_ne, q_ne, Nat.reduceAdd, Nat.reducePow, Int.reducePow, Nat.reduceMul, Nat.reduceSub, Nat.reduceLeDiff, Nat.reduceLT, Nat.reduceEqDiff, Int.reduceNeg, Int.reduceLT, Int.reduceLE, Int.reduceEq, Int.reduceNe, Int.reduceAdd, Int.reduceSub, Int.reduceMul, Int.reduceToNat, Int.reduceBEq, Int.reduceBNe, df16, TCs, rightG, capF, cap_eta, hr, ht', sub, List.take_succ_cons, List.take_zero, List.drop_zero]
      exact hR
    | true =>
    by_cases d1 : n < 1
    case pos =>
      rw [rsl_deep ht hr (.inl d1), setM_self H] at hR
      simp only [RW.v] at hR
      simp only [Cap.cl]
      simp (config := { maxSteps := 10000000 }) only [EV1, EV2, EV3, EV4, EV5, EV6, addT, istep, lenR_sl, lenR_ns, lenR_es, pickR, putD, bin1R, un1R, slcR, bnd, capsOf, fillP, S_plain, V_plain, V.cells, S_known, V_known, C.v, blk, setL, setH, eqS, eq1, cmpS, cmp1, isNil, popTo, killT, setT, leT, V.below, C.below, S_below, R.below, V.val, C.val, S_val, R.val, R.takes, vals, shows, List.any_cons, List.any_nil, unnamed, V.kill, V.names, C.names, S_names, R.names, List.set, List.replicate, ↓q_cond_t, ↓q_cond_f, if_true, if_false, reduceCtorEq, rvals, rvC, result, C_known, V.noL, C.noL, S_noL, R.noL, Option.map, true_and, and_true, ge_iff_le, gt_iff_lt, implies_true, q_ite_t, q_ite_f, beq_iff_eq, bne_iff_ne, q_ne, Nat.reduceAdd, Nat.reducePow, Int.reducePow, Nat.reduceMul, Nat.reduceSub, Nat.reduceLeDiff, Nat.reduceLT, Nat.reduceEqDiff, Int.reduceNeg, Int.reduceLT, Int.reduceLE, Int.reduceEq, Int.reduceNe, Int.reduceAdd, Int.reduceSub, Int.reduceMul, Int.reduceToNat, Int.reduceBEq, Int.reduceBNe, df16, TCs, rightG, capF, cap_eta, hr, ht', d1, sub, List.take_succ_cons, List.take_zero, List.drop_zero]
      exact hR
    by_cases d2 : 32 < n
    case pos =>
      rw [rsl_deep ht hr (.inr d2), setM_self H] at hR
      simp only [RW.v] at hR
      simp only [Cap.cl]
      simp (config := { maxSteps := 10000000 }) only [EV1, EV2, EV3, EV4, EV5, EV6, addT, istep, lenR_sl, lenR_ns, lenR_es, pickR, putD, bin1R, un1R, slcR, bnd, capsOf, fillP, S_plain, V_plain, V.cells, S_known, V_known, C.v, blk, setL, setH, eqS, eq1, cmpS, cmp1, isNil, popTo, killT, setT, leT, V.below, C.below, S_below, R.below, V.val, C.val, S_val, R.val, R.takes, vals, shows, List.any_cons, List.any_nil, unnamed, V.kill, V.names, C.names, S_names, R.names, List.set, List.replicate, ↓q_cond_t, ↓q_cond_f, if_true, if_false, reduceCtorEq, rvals, rvC, result, C_known, V.noL, C.noL, S_noL, R.noL, Option.map, true_and, and_true, ge_iff_le, gt_iff_lt, implies_true, q_ite_t, q_ite_f, beq_iff_eq, bne_iff_ne, q_ne, Nat.reduceAdd, Nat.reducePow, Int.reducePow, Nat.reduceMul, Nat.reduceSub, Nat.reduceLeDiff, Nat.reduceLT, Nat.reduceEqDiff, Int.reduceNeg, Int.reduceLT, Int.reduceLE, Int.reduceEq, Int.reduceNe, Int.reduceAdd, Int.reduceSub, Int.reduceMul, Int.reduceToNat, Int.reduceBEq, Int.reduceBNe, df16, TCs, rightG, capF, cap_eta, hr, ht', d1, d2, sub, List.take_succ_cons, List.take_zero, List.drop_zero]
      exact hR
    rw [rsl_way ht hr (by omega)] at hR
    simp only [Cap.cl]
    simp (config := { maxSteps := 10000000 }) only [EV1, EV2, EV3, EV4, EV5, EV6, addT, istep, lenR_sl, lenR_ns, lenR_es, pickR, putD, bin1R, un1R, slcR, bnd, capsOf, fillP, S_plain, V_plain, V.cells, S_known, V_known, C.v, blk, setL, setH, eqS, eq1, cmpS, cmp1, isNil, popTo, killT, setT, leT, V.below, C.below, S_below, R.below, V.val, C.val, S_val, R.val, R.takes, vals, shows, List.any_cons, List.any_nil, unnamed, V.kill, V.names, C.names, S_names, R.names, List.set, List.replicate, ↓q_cond_t, ↓q_cond_f, if_true, if_false, reduceCtorEq, rvals, rvC, result, C_known, V.noL, C.noL, S_noL, R.noL, Option.map, true_and, and_true, ge_iff_le, gt_iff_lt, implies_true, q_ite_t, q_ite_f, beq_iff_eq, bne_iff_ne, q_ne, Nat.reduceAdd, Nat.reducePow, Int.reducePow, Nat.reduceMul, Nat.reduceSub, Nat.reduceLeDiff, Nat.reduceLT, Nat.reduceEqDiff, Int.reduceNeg, Int.reduceLT, Int.reduceLE, Int.reduceEq, Int.reduceNe, Int.reduceAdd, Int.reduceSub, Int.reduceMul, Int.reduceToNat, Int.reduceBEq, Int.reduceBNe, df16, TCs, rightG, capF, cap_eta, hr, ht', d1, d2, sub, put, List.take_succ_cons, List.take_zero, List.drop_zero]
    have hcm : ∀ m', clean (setM h a b m').length (setM h a b m') = true := fun m' => by rw [setM_len]; exact setM_clean H hc H.ltb
    refine loop_rule (α := M × Cap × Int) [8, 9, 10, 13, 14, 15, 16, 17, 18, 37, 38, 39, 40, 41, 42, 43, 44, 45, 46, 47, 48, 49, 50, 51, 52, 53, 54, 55, 56, 57, 58, 59, 60, 61, 62, 63, 64, 65, 66, 67, 68, 69, 70, 71, 72, 73, 74, 75, 76, 77, 78, 79, 80, 81, 82, 83] (fun x => []) (fun x => [⟨.rw, c.cl, 11⟩, ⟨.rw, [.i .u64 w, .i .i64 x.2.2], 2⟩, ⟨.rw, x.2.1.cl, 11⟩]) (fun x => setM h a b x.1)
      (fun x => rightB x.2.1 = true ∧ x.2.1.ty = 2 ∧ 0 < x.2.2 ∧ x.2.2 ≤ 32 ∧ ∃ f : Nat, x.2.2 ≤ f ∧ K (way false w f x.1 x.2.1 x.2.2).v (setM h a b (way false w f x.1 x.2.1 x.2.2).m)) (fun x => x.2.2.toNat) (m, c, n) ?_ ?_ ?_
    · exact ⟨hr, ht, by show 0 < n; omega, by show n ≤ 32; omega, 32, by show n ≤ 32; omega, hR⟩
    · refine Wk.same rfl (setM_self H).symm ?_
      simp (config := { maxSteps := 10000000 }) only [EV1, EV2, EV3, EV4, EV5, EV6, addT, istep, lenR_sl, lenR_ns, lenR_es, pickR, putD, bin1R, un1R, slcR, bnd, capsOf, fillP, S_plain, V_plain, V.cells, S_known, V_known, C.v, blk, setL, setH, eqS, eq1, cmpS, cmp1, isNil, popTo, killT, setT, leT, V.below, C.below, S_below, R.below, V.val, C.val, S_val, R.val, R.takes, vals, shows, List.any_cons, List.any_nil, unnamed, V.kill, V.names, C.names, S_names, R.names, List.set, List.replicate, ↓q_cond_t, ↓q_cond_f, if_true, if_false, reduceCtorEq, rvals, rvC, result, C_known, V.noL, C.noL, S_noL, R.noL, Option.map, true_and, and_true, ge_iff_le, gt_iff_lt, implies_true, q_ite_t, q_ite_f, beq_iff_eq, bne_iff_ne, q_ne, Nat.reduceAdd, Nat.reducePow, Int.reducePow, Nat.reduceMul, Nat.reduceSub, Nat.reduceLeDiff, Nat.reduceLT, Nat.reduceEqDiff, Int.reduceNeg, Int.reduceLT, Int.reduceLE, Int.reduceEq, Int.reduceNe, Int.reduceAdd, Int.reduceSub, Int.reduceMul, Int.reduceToNat, Int.reduceBEq, Int.reduceBNe]
    · rintro X ⟨m', c', n'⟩ ⟨hr', ht', hn0, hn1, f, hf, hK⟩ IH
      simp only at hr' ht' hn0 hn1 hf hK
      obtain ⟨f, rfl⟩ : ∃ g, f = g + 1 := ⟨f - 1, by omega⟩
      obtain ⟨hb1, hb2, RB⟩ := node_facts hr' ht'
      have hg := RB.gbits
      have ho := RB.obj
      have ha := wayA_le (w := w) (n := n') hr' ht'
      have i1 := someB_le (w := w) (n := n' - c'.gbits - c'.bits) (k := c'.bits) ⟨by omega, hb2⟩
      have b1 : (0 : Int) ≤ c'.gbits ∧ c'.gbits ≤ 31 ∧ 0 ≤ n' ∧ n' ≤ 32 := by omega
      have b2 : 0 ≤ c'.bits ∧ c'.bits ≤ 31 := by omega
      by_cases g1 : n' < c'.gbits
      · simp only [way, g1, if_true] at hK
        simp only [RW.v] at hK
        refine run_sound (Tab.ok_Γ _) 200 _ _ _ _ ?_
        simp (config := { maxSteps := 10000000 }) only [EV1, EV2, EV3, EV4, EV5, EV6, addT, istep, lenR_sl, lenR_ns, lenR_es, pickR, putD, bin1R, un1R, slcR, bnd, capsOf, fillP, S_plain, V_plain, V.cells, S_known, V_known, C.v, blk, setL, setH, eqS, eq1, cmpS, cmp1, isNil, popTo, killT, setT, leT, V.below, C.below, S_below, R.below, V.val, C.val, S_val, R.val, R.takes, vals, shows, List.any_cons, List.any_nil, unnamed, V.kill, V.names, C.names, S_names, R.names, List.set, List.replicate, ↓q_cond_t, ↓q_cond_f, if_true, if_false, reduceCtorEq, rvals, rvC, result, C_known, V.noL, C.noL, S_noL, R.noL, Option.map, true_and, and_true, ge_iff_le, gt_iff_lt, implies_true, q_ite_t, q_ite_f, beq_iff_eq, bne_iff_ne, q_ne, Nat.reduceAdd, Nat.reducePow, Int.reducePow, Nat.reduceMul, Nat.reduceSub, Nat.reduceLeDiff, Nat.reduceLT, Nat.reduceEqDiff, Int.reduceNeg, Int.reduceLT, Int.reduceLE, Int.reduceEq, Int.reduceNe, Int.reduceAdd, Int.reduceSub, Int.reduceMul, Int.reduceToNat, Int.reduceBEq, Int.reduceBNe, TCs, takeG, R.lend, R.unlend, S_ren, C.ren, V.ren, app_taken, app_dropn, app_take0, app_drop0, List.take_succ_cons, List.take_zero, List.drop_succ_cons, List.drop_zero, Nat.not_lt_zero, Nat.lt_irrefl, Nat.add_sub_cancel_left, Nat.not_lt, Nat.le_add_right, g1, b1, hu, hcm, Cap.cl, Blk.ren, List.map_cons, List.map_nil]
        exact hK
      by_cases g2 : someB w (n' - c'.gbits) c'.gbits = c'.guard
      case neg =>
        simp only [way, g1, g2, if_true, if_false, not_false_eq_true] at hK
        simp only [RW.v] at hK
        have g2' : (someB w (n' - c'.gbits) c'.gbits != c'.guard) = true := by simpa using g2
        refine run_sound (Tab.ok_Γ _) 200 _ _ _ _ ?_
        simp (config := { maxSteps := 10000000 }) only [EV1, EV2, EV3, EV4, EV5, EV6, addT, istep, lenR_sl, lenR_ns, lenR_es, pickR, putD, bin1R, un1R, slcR, bnd, capsOf, fillP, S_plain, V_plain, V.cells, S_known, V_known, C.v, blk, setL, setH, eqS, eq1, cmpS, cmp1, isNil, popTo, killT, setT, leT, V.below, C.below, S_below, R.below, V.val, C.val, S_val, R.val, R.takes, vals, shows, List.any_cons, List.any_nil, unnamed, V.kill, V.names, C.names, S_names, R.names, List.set, List.replicate, ↓q_cond_t, ↓q_cond_f, if_true, if_false, reduceCtorEq, rvals, rvC, result, C_known, V.noL, C.noL, S_noL, R.noL, Option.map, true_and, and_true, ge_iff_le, gt_iff_lt, implies_true, q_ite_t, q_ite_f, beq_iff_eq, bne_iff_ne, q_ne, Nat.reduceAdd, Nat.reducePow, Int.reducePow, Nat.reduceMul, Nat.reduceSub, Nat.reduceLeDiff, Nat.reduceLT, Nat.reduceEqDiff, Int.reduceNeg, Int.reduceLT, Int.reduceLE, Int.reduceEq, Int.reduceNe, Int.reduceAdd, Int.reduceSub, Int.reduceMul, Int.reduceToNat, Int.reduceBEq, Int.reduceBNe, TCs, takeG, R.lend, R.unlend, S_ren, C.ren, V.ren, app_taken, app_dropn, app_take0, app_drop0, List.take_succ_cons, List.take_zero, List.drop_succ_cons, List.drop_zero, Nat.not_lt_zero, Nat.lt_irrefl, Nat.add_sub_cancel_left, Nat.not_lt, Nat.le_add_right, g1, b1, hu, hcm, g2', Cap.cl, Blk.ren, List.map_cons, List.map_nil]
        exact hK
      have g2' : (someB w (n' - c'.gbits) c'.gbits != c'.guard) = false := by simpa using g2
      have b3 : 0 ≤ n' - c'.gbits ∧ n' - c'.gbits ≤ 32 := by omega
      by_cases g3 : n' - c'.gbits < c'.bits
      · simp only [way, g1, g2, g3, if_true, if_false, not_true_eq_false] at hK
        simp only [RW.v] at hK
        refine run_sound (Tab.ok_Γ _) 200 _ _ _ _ ?_
        simp (config := { maxSteps := 10000000 }) only [EV1, EV2, EV3, EV4, EV5, EV6, addT, istep, lenR_sl, lenR_ns, lenR_es, pickR, putD, bin1R, un1R, slcR, bnd, capsOf, fillP, S_plain, V_plain, V.cells, S_known, V_known, C.v, blk, setL, setH, eqS, eq1, cmpS, cmp1, isNil, popTo, killT, setT, leT, V.below, C.below, S_below, R.below, V.val, C.val, S_val, R.val, R.takes, vals, shows, List.any_cons, List.any_nil, unnamed, V.kill, V.names, C.names, S_names, R.names, List.set, List.replicate, ↓q_cond_t, ↓q_cond_f, if_true, if_false, reduceCtorEq, rvals, rvC, result, C_known, V.noL, C.noL, S_noL, R.noL, Option.map, true_and, and_true, ge_iff_le, gt_iff_lt, implies_true, q_ite_t, q_ite_f, beq_iff_eq, bne_iff_ne, q_ne, Nat.reduceAdd, Nat.reducePow, Int.reducePow, Nat.reduceMul, Nat.reduceSub, Nat.reduceLeDiff, Nat.reduceLT, Nat.reduceEqDiff, Int.reduceNeg, Int.reduceLT, Int.reduceLE, Int.reduceEq, Int.reduceNe, Int.reduceAdd, Int.reduceSub, Int.reduceMul, Int.reduceToNat, Int.reduceBEq, Int.reduceBNe, TCs, takeG, R.lend, R.unlend, S_ren, C.ren, V.ren, app_taken, app_dropn, app_take0, app_drop0, List.take_succ_cons, List.take_zero, List.drop_succ_cons, List.drop_zero, Nat.not_lt_zero, Nat.lt_irrefl, Nat.add_sub_cancel_left, Nat.not_lt, Nat.le_add_right, g1, b1, b2, b3, hu, hcm, g2', g3, Cap.cl, Blk.ren, List.map_cons, List.map_nil]
        exact hK
      have w4 : IntKind.i64.wrap (4 * someB w (n' - c'.gbits - c'.bits) c'.bits) = 4 * someB w (n' - c'.gbits - c'.bits) c'.bits := wrap64 (by omega) (by omega)
      have w5 : IntKind.i64.wrap (c'.obj + 4 * someB w (n' - c'.gbits - c'.bits) c'.bits) = wayA w c' n' := wrap64 (by omega) (by omega)
      by_cases g4 : n' - c'.gbits - c'.bits = 0
      · simp only [way, g1, g2, g3, g4, if_true, if_false, not_true_eq_false, Bool.false_eq_true] at hK
        simp only [RW.v] at hK
        have g4' : (n' - c'.gbits - c'.bits == 0) = true := by simpa using g4
        refine run_sound (Tab.ok_Γ _) 200 _ _ _ _ ?_
        simp (config := { maxSteps := 10000000 }) only [EV1, EV2, EV3, EV4, EV5, EV6, addT, istep, lenR_sl, lenR_ns, lenR_es, pickR, putD, bin1R, un1R, slcR, bnd, capsOf, fillP, S_plain, V_plain, V.cells, S_known, V_known, C.v, blk, setL, setH, eqS, eq1, cmpS, cmp1, isNil, popTo, killT, setT, leT, V.below, C.below, S_below, R.below, V.val, C.val, S_val, R.val, R.takes, vals, shows, List.any_cons, List.any_nil, unnamed, V.kill, V.names, C.names, S_names, R.names, List.set, List.replicate, ↓q_cond_t, ↓q_cond_f, if_true, if_false, reduceCtorEq, rvals, rvC, result, C_known, V.noL, C.noL, S_noL, R.noL, Option.map, true_and, and_true, ge_iff_le, gt_iff_lt, implies_true, q_ite_t, q_ite_f, beq_iff_eq, bne_iff_ne, q_ne, Nat.reduceAdd, Nat.reducePow, Int.reducePow, Nat.reduceMul, Nat.reduceSub, Nat.reduceLeDiff, Nat.reduceLT, Nat.reduceEqDiff, Int.reduceNeg, Int.reduceLT, Int.reduceLE, Int.reduceEq, Int.reduceNe, Int.reduceAdd, Int.reduceSub, Int.reduceMul, Int.reduceToNat, Int.reduceBEq, Int.reduceBNe, TCs, takeG, R.lend, R.unlend, S_ren, C.ren, V.ren, app_taken, app_dropn, app_take0, app_drop0, List.take_succ_cons, List.take_zero, List.drop_succ_cons, List.drop_zero, Nat.not_lt_zero, Nat.lt_irrefl, Nat.add_sub_cancel_left, Nat.not_lt, Nat.le_add_right, g1, b1, b2, b3, hu, hcm, g2', g3, w4, w5, g4', Cap.cl, Blk.ren, List.map_cons, List.map_nil]
        rw [g4]
        exact hK
      have g4' : (n' - c'.gbits - c'.bits == 0) = false := by simpa using g4
      obtain ⟨s, hs⟩ : ∃ s, m'.getV (wayA w c' n') = s := ⟨_, rfl⟩
      obtain ⟨e, he⟩ : ∃ e, m'.getE (wayA w c' n') = e := ⟨_, rfl⟩
      have hsr : e = 0 → rightB s.cap = true := fun h0 => by rw [← hs]; exact M.getV_right (he.trans h0)
      by_cases g5 : e = 0
      case neg =>
        simp only [way, g1, g2, g3, g4, he, hs, g5, if_true, if_false, not_true_eq_false, false_and] at hK
        simp only [RW.v] at hK
        have g5' : (e != 0) = true := by simpa using g5
        refine run_sound (Tab.ok_Γ _) 300 _ _ _ _ ?_
        simp (config := { maxSteps := 10000000 }) only [EV1, EV2, EV3, EV4, EV5, EV6, addT, istep, lenR_sl, lenR_ns, lenR_es, pickR, putD, bin1R, un1R, slcR, bnd, capsOf, fillP, S_plain, V_plain, V.cells, S_known, V_known, C.v, blk, setL, setH, eqS, eq1, cmpS, cmp1, isNil, popTo, killT, setT, leT, V.below, C.below, S_below, R.below, V.val, C.val, S_val, R.val, R.takes, vals, shows, List.any_cons, List.any_nil, unnamed, V.kill, V.names, C.names, S_names, R.names, List.set, List.replicate, ↓q_cond_t, ↓q_cond_f, if_true, if_false, reduceCtorEq, rvals, rvC, result, C_known, V.noL, C.noL, S_noL, R.noL, Option.map, true_and, and_true, ge_iff_le, gt_iff_lt, implies_true, q_ite_t, q_ite_f, beq_iff_eq, bne_iff_ne, q_ne, Nat.reduceAdd, Nat.reducePow, Int.reducePow, Nat.reduceMul, Nat.reduceSub, Nat.reduceLeDiff, Nat.reduceLT, Nat.reduceEqDiff, Int.reduceNeg, Int.reduceLT, Int.reduceLE, Int.reduceEq, Int.reduceNe, Int.reduceAdd, Int.reduceSub, Int.reduceMul, Int.reduceToNat, Int.reduceBEq, Int.reduceBNe, TCs, takeG, R.lend, R.unlend, S_ren, C.ren, V.ren, app_taken, app_dropn, app_take0, app_drop0, List.take_succ_cons, List.take_zero, List.drop_succ_cons, List.drop_zero, Nat.not_lt_zero, Nat.lt_irrefl, Nat.add_sub_cancel_left, Nat.not_lt, Nat.le_add_right, g1, b1, b2, b3, hu, hcm, g2', g3, w4, w5, g4', get2G, memF_set H, get2M, he, hs, g5', Slot.cl, Cap.cl, sub, put, List.take_succ_cons, List.take_zero, List.drop_zero, Blk.ren, List.map_cons, List.map_nil]
        exact hK
      have g5' : (e != 0) = false := by simpa using g5
      by_cases g6 : s.cap.ty = 2
      case neg =>
        simp only [way, g1, g2, g3, g4, he, hs, g5, g6, if_true, if_false, not_true_eq_false, and_false] at hK
        simp only [RW.v] at hK
        have g6' : (s.cap.ty != 2) = true := by simpa using g6
        refine run_sound (Tab.ok_Γ _) 300 _ _ _ _ ?_
        simp (config := { maxSteps := 10000000 }) only [EV1, EV2, EV3, EV4, EV5, EV6, addT, istep, lenR_sl, lenR_ns, lenR_es, pickR, putD, bin1R, un1R, slcR, bnd, capsOf, fillP, S_plain, V_plain, V.cells, S_known, V_known, C.v, blk, setL, setH, eqS, eq1, cmpS, cmp1, isNil, popTo, killT, setT, leT, V.below, C.below, S_below, R.below, V.val, C.val, S_val, R.val, R.takes, vals, shows, List.any_cons, List.any_nil, unnamed, V.kill, V.names, C.names, S_names, R.names, List.set, List.replicate, ↓q_cond_t, ↓q_cond_f, if_true, if_false, reduceCtorEq, rvals, rvC, result, C_known, V.noL, C.noL, S_noL, R.noL, Option.map, true_and, and_true, ge_iff_le, gt_iff_lt, implies_true, q_ite_t, q_ite_f, beq_iff_eq, bne_iff_ne, q_ne, Nat.reduceAdd, Nat.reducePow, Int.reducePow, Nat.reduceMul, Nat.reduceSub, Nat.reduceLeDiff, Nat.reduceLT, Nat.reduceEqDiff, Int.reduceNeg, Int.reduceLT, Int.reduceLE, Int.reduceEq, Int.reduceNe, Int.reduceAdd, Int.reduceSub, Int.reduceMul, Int.reduceToNat, Int.reduceBEq, Int.reduceBNe, TCs, takeG, R.lend, R.unlend, S_ren, C.ren, V.ren, app_taken, app_dropn, app_take0, app_drop0, List.take_succ_cons, List.take_zero, List.drop_succ_cons, List.drop_zero, Nat.not_lt_zero, Nat.lt_irrefl, Nat.add_sub_cancel_left, Nat.not_lt, Nat.le_add_right, g1, b1, b2, b3, hu, hcm, g2', g3, w4, w5, g4', get2G, memF_set H, get2M, he, hs, g5', g6', Slot.cl, Cap.cl, sub, put, List.take_succ_cons, List.take_zero, List.drop_zero, Blk.ren, List.map_cons, List.map_nil]
        exact hK
      have g6' : (s.cap.ty != 2) = false := by simpa using g6
      simp only [way, g1, g2, g3, g4, he, hs, g5, g6, if_true, if_false, not_true_eq_false, and_true] at hK
      refine run_sound (Tab.ok_Γ _) 300 _ _ _ _ ?_
      simp (config := { maxSteps := 10000000 }) only [EV1, EV2, EV3, EV4, EV5, EV6, addT, istep, lenR_sl, lenR_ns, lenR_es, pickR, putD, bin1R, un1R, slcR, bnd, capsOf, fillP, S_plain, V_plain, V.cells, S_known, V_known, C.v, blk, setL, setH, eqS, eq1, cmpS, cmp1, isNil, popTo, killT, setT, leT, V.below, C.below, S_below, R.below, V.val, C.val, S_val, R.val, R.takes, vals, shows, List.any_cons, List.any_nil, unnamed, V.kill, V.names, C.names, S_names, R.names, List.set, List.replicate, ↓q_cond_t, ↓q_cond_f, if_true, if_false, reduceCtorEq, rvals, rvC, result, C_known, V.noL, C.noL, S_noL, R.noL, Option.map, true_and, and_true, ge_iff_le, gt_iff_lt, implies_true, q_ite_t, q_ite_f, beq_iff_eq, bne_iff_ne, q_ne, Nat.reduceAdd, Nat.reducePow, Int.reducePow, Nat.reduceMul, Nat.reduceSub, Nat.reduceLeDiff, Nat.reduceLT, Nat.reduceEqDiff, Int.reduceNeg, Int.reduceLT, Int.reduceLE, Int.reduceEq, Int.reduceNe, Int.reduceAdd, Int.reduceSub, Int.reduceMul, Int.reduceToNat, Int.reduceBEq, Int.reduceBNe, TCs, takeG, R.lend, R.unlend, S_ren, C.ren, V.ren, app_taken, app_dropn, app_take0, app_drop0, List.take_succ_cons, List.take_zero, List.drop_succ_cons, List.drop_zero, Nat.not_lt_zero, Nat.lt_irrefl, Nat.add_sub_cancel_left, Nat.not_lt, Nat.le_add_right, g1, b1, b2, b3, hu, hcm, g2', g3, w4, w5, g4', get2G, memF_set H, get2M, he, hs, g5', g6', Slot.cl, Cap.cl, sub, put, List.take_succ_cons, List.take_zero, List.drop_zero, Blk.ren, List.map_cons, List.map_nil]
      refine IH (m'.getX (wayA w c' n'), s.cap, n' - c'.gbits - c'.bits) _ ?_ ⟨hsr g5, g6, ?_, ?_, f, ?_, hK⟩ ?_
      · show (n' - c'.gbits - c'.bits).toNat < n'.toNat
        omega
      · show 0 < n' - c'.gbits - c'.bits
        omega
      · show n' - c'.gbits - c'.bits ≤ 32
        omega
      · show n' - c'.gbits - c'.bits ≤ f
        omega
      · refine Wk.keep 3 rfl rfl ?_ ?_ ?_
        all_goals simp (config := { maxSteps := 10000000 }) only [EV1, EV2, EV3, EV4, EV5, EV6, addT, istep, lenR_sl, lenR_ns, lenR_es, pickR, putD, bin1R, un1R, slcR, bnd, capsOf, fillP, S_plain, V_plain, V.cells, S_known, V_known, C.v, blk, setL, setH, eqS, eq1, cmpS, cmp1, isNil, popTo, killT, setT, leT, V.below, C.below, S_below, R.below, V.val, C.val, S_val, R.val, R.takes, vals, shows, List.any_cons, List.any_nil, unnamed, V.kill, V.names, C.names, S_names, R.names, List.set, List.replicate, ↓q_cond_t, ↓q_cond_f, if_true, if_false, reduceCtorEq, rvals, rvC, result, C_known, V.noL, C.noL, S_noL, R.noL, Option.map, true_and, and_true, ge_iff_le, gt_iff_lt, implies_true, q_ite_t, q_ite_f, beq_iff_eq, bne_iff_ne, q_ne, Nat.reduceAdd, Nat.reducePow, Int.reducePow, Nat.reduceMul, Nat.reduceSub, Nat.reduceLeDiff, Nat.reduceLT, Nat.reduceEqDiff, Int.reduceNeg, Int.reduceLT, Int.reduceLE, Int.reduceEq, Int.reduceNe, Int.reduceAdd, Int.reduceSub, Int.reduceMul, Int.reduceToNat, Int.reduceBEq, Int.reduceBNe, Cap.cl]
  · exact hS.elim
theorem rrsl_snd : Snd Try.prog 21 (FSpec.of (rslG true)) := snd_run TCs_snd mixed Try.func21 dc21 400 fun args h K hc hS => by
  obtain ⟨a, b, m, rest, rfl, H, hS1⟩ := memF_spec hS
  clear hS
  have hS := hS1
  clear hS1
  unfold rslM at hS
  split at hS
  · rename_i x w n
    obtain ⟨c, e, hu, hR⟩ := capF_spec hS
    clear hS
    simp only [List.cons.injEq, and_true] at e
    subst e
    simp only [spec_ok] at hR
    by_cases ht : c.ty = 2
    case neg =>
      rw [rsl_no (fun x => ht x.1), setM_self H] at hR
      simp only [RW.v] at hR
      have ht' : (c.ty != 2) = true := by simpa using ht
      simp only [Cap.cl]
      simp (config := { maxSteps := 10000000 }) only [EV1, EV2, EV3, EV4, EV5, EV6, addT, istep, lenR_sl, lenR_ns, lenR_es, pickR, putD, bin1R, un1R, slcR, bnd, capsOf, fillP, S_plain, V_plain, V.cells, S_known, V_known, C.v, blk, setL, setH, eqS, eq1, cmpS, cmp1, isNil, popTo, killT, setT, leT, V.below, C.below, S_below, R.below, V.val, C.val, S_val, R.val, R.takes, vals, shows, List.any_cons, List.any_nil, unnamed, V.kill, V.names, C.names, S_names, R.names, List.set, List.replicate, ↓q_cond_t, ↓q_cond_f, if_true, if_false, reduceCtorEq, rvals, rvC, result, C_known, V.noL, C.noL, S_noL, R.noL, Option.map, true_and, and_true, ge_iff_le, gt_iff_lt, implies_true, q_ite_t, q_ite_f, beq_iff_eq, bne_iff_ne, q_ne, Nat.reduceAdd, Nat.reducePow, Int.reducePow, Nat.reduceMul, Nat.reduceSub, Nat.reduceLeDiff, Nat.reduceLT, Nat.reduceEqDiff, Int.reduceNeg, Int.reduceLT, Int.reduceLE, Int.reduceEq, Int.reduceNe, Int.reduceAdd, Int.reduceSub, Int.reduceMul, Int.reduceToNat, Int.reduceBEq, Int.reduceBNe, df21, TCs, rightG, capF, cap_eta, ht', sub, List.take_succ_cons, List.take_zero, List.drop_zero]
      exact hR
    have ht' : (c.ty != 2) = false := by simpa using ht
    cases hr : rightB c with
    | false =>
      rw [rsl_no (fun x => by simp [hr] at x), setM_self H] at hR
      simp only [RW.v] at hR
      simp only [Cap.cl]
      simp (config := { maxSteps := 10000000 }) only [EV1, EV2, EV3, EV4, EV5, EV6, addT, istep, lenR_sl, lenR_ns, lenR_es, pickR, putD, bin1R, un1R, slcR, bnd, capsOf, fillP, S_plain, V_plain, V.cells, S_known, V_known, C.v, blk, setL, setH, eqS, eq1, cmpS, cmp1, isNil, popTo, killT, setT, leT, V.below, C.below, S_below, R.below, V.val, C.val, S_val, R.val, R.takes, vals, shows, List.any_cons, List.any_nil, unnamed, V.kill, V.names, C.names, S_names, R.names, List.set, List.replicate, ↓q_cond_t, ↓q_cond_f, if_true, if_false, reduceCtorEq, rvals, rvC, result, C_known, V.noL, C.noL, S_noL, R.noL, Option.map, true_and, and_true, ge_iff_le, gt_iff_lt, implies_true, q_ite_t, q_ite_f, beq_iff_eq, bne_iff_ne, q_ne, Nat.reduceAdd, Nat.reducePow, Int.reducePow, Nat.reduceMul, Nat.reduceSub, Nat.reduceLeDiff, Nat.reduceLT, Nat.reduceEqDiff, Int.reduceNeg, Int.reduceLT, Int.reduceLE, Int.reduceEq, Int.reduceNe, Int.reduceAdd, Int.reduceSub, Int.reduceMul, Int.reduceToNat, Int.reduceBEq, Int.reduceBNe, df21, TCs, rightG, capF, cap_eta, hr, ht', sub, List.take_succ_cons, List.take_zero, List.drop_zero]
      exact hR
    | true =>
    by_cases d1 : n < 1
    case pos =>
      rw [rsl_deep ht hr (.inl d1), setM_self H] at hR
      simp only [RW.v] at hR
      simp only [Cap.cl]
      simp (config := { maxSteps := 10000000 }) only [EV1, EV2, EV3, EV4, EV5, EV6, addT, istep, lenR_sl, lenR_ns, lenR_es, pickR, putD, bin1R, un1R, slcR, bnd, capsOf, fillP, S_plain, V_plain, V.cells, S_known, V_known, C.v, blk, setL, setH, eqS, eq1, cmpS, cmp1, isNil, popTo, killT, setT, leT, V.below, C.below, S_below, R.below, V.val, C.val, S_val, R.val, R.takes, vals, shows, List.any_cons, List.any_nil, unnamed, V.kill, V.names, C.names, S_names, R.names, List.set, List.replicate, ↓q_cond_t, ↓q_cond_f, if_true, if_false, reduceCtorEq, rvals, rvC, result, C_known, V.noL, C.noL, S_noL, R.noL, Option.map, true_and, and_true, ge_iff_le, gt_iff_lt, implies_true, q_ite_t, q_ite_f, beq_iff_eq, bne_iff_ne, q_ne, Nat.reduceAdd, Nat.reducePow, Int.reducePow, Nat.reduceMul, Nat.reduceSub, Nat.reduceLeDiff, Nat.reduceLT, Nat.reduceEqDiff, Int.reduceNeg, Int.reduceLT, Int.reduceLE, Int.reduceEq, Int.reduceNe, Int.reduceAdd, Int.reduceSub, Int.reduceMul, Int.reduceToNat, Int.reduceBEq, Int.reduceBNe, df21, TCs, rightG, capF, cap_eta, hr, ht', d1, sub, List.take_succ_cons, List.take_zero, List.drop_zero]
      exact hR
    by_cases d2 : 32 < n
    case pos =>
      rw [rsl_deep ht hr (.inr d2), setM_self H] at hR
      simp only [RW.v] at hR
      simp only [Cap.cl]
      simp (config := { maxSteps := 10000000 }) only [EV1, EV2, EV3, EV4, EV5, EV6, addT, istep, lenR_sl, lenR_ns, lenR_es, pickR, putD, bin1R, un1R, slcR, bnd, capsOf, fillP, S_plain, V_plain, V.cells, S_known, V_known, C.v, blk, setL, setH, eqS, eq1, cmpS, cmp1, isNil, popTo, killT, setT, leT, V.below, C.below, S_below, R.below, V.val, C.val, S_val, R.val, R.takes, vals, shows, List.any_cons, List.any_nil, unnamed, V.kill, V.names, C.names, S_names, R.names, List.set, List.replicate, ↓q_cond_t, ↓q_cond_f, if_true, if_false, reduceCtorEq, rvals, rvC, result, C_known, V.noL, C.noL, S_noL, R.noL, Option.map, true_and, and_true, ge_iff_le, gt_iff_lt, implies_true, q_ite_t, q_ite_f, beq_iff_eq, bne_iff_ne, q_ne, Nat.reduceAdd, Nat.reducePow, Int.reducePow, Nat.reduceMul, Nat.reduceSub, Nat.reduceLeDiff, Nat.reduceLT, Nat.reduceEqDiff, Int.reduceNeg, Int.reduceLT, Int.reduceLE, Int.reduceEq, Int.reduceNe, Int.reduceAdd, Int.reduceSub, Int.reduceMul, Int.reduceToNat, Int.reduceBEq, Int.reduceBNe, df21, TCs, rightG, capF, cap_eta, hr, ht', d1, d2, sub, List.take_succ_cons, List.take_zero, List.drop_zero]
      exact hR
    rw [rsl_way ht hr (by omega)] at hR
    simp only [Cap.cl]
    simp (config := { maxSteps := 10000000 }) only [EV1, EV2, EV3, EV4, EV5, EV6, addT, istep, lenR_sl, lenR_ns, lenR_es, pickR, putD, bin1R, un1R, slcR, bnd, capsOf, fillP, S_plain, V_plain, V.cells, S_known, V_known, C.v, blk, setL, setH, eqS, eq1, cmpS, cmp1, isNil, popTo, killT, setT, leT, V.below, C.below, S_below, R.below, V.val, C.val, S_val, R.val, R.takes, vals, shows, List.any_cons, List.any_nil, unnamed, V.kill, V.names, C.names, S_names, R.names, List.set, List.replicate, ↓q_cond_t, ↓q_cond_f, if_true, if_false, reduceCtorEq, rvals, rvC, result, C_known, V.noL, C.noL, S_noL, R.noL, Option.map, true_and, and_true, ge_iff_le, gt_iff_lt, implies_true, q_ite_t, q_ite_f, beq_iff_eq, bne_iff_ne, q_ne, Nat.reduceAdd, Nat.reducePow, Int.reducePow, Nat.reduceMul, Nat.reduceSub, Nat.reduceLeDiff, Nat.reduceLT, Nat.reduceEqDiff, Int.reduceNeg, Int.reduceLT, Int.reduceLE, Int.reduceEq, Int.reduceNe, Int.reduceAdd, Int.reduceSub, Int.reduceMul, Int.reduceToNat, Int.reduceBEq, Int.reduceBNe, df21, TCs, rightG, capF, cap_eta, hr, ht', d1, d2, sub, put, List.take_succ_cons, List.take_zero, List.drop_zero]
    have hcm : ∀ m', clean (setM h a b m').length (setM h a b m') = true := fun m' => by rw [setM_len]; exact setM_clean H hc H.ltb
    refine loop_rule (α := M × Cap × Int) [8, 9, 10, 13, 14, 15, 16, 17, 18, 36, 37, 38, 39, 40, 41, 42, 43, 44, 45, 46, 47, 48, 49, 50, 51, 52, 53, 54, 55, 56, 57, 58, 59, 60, 61, 62, 63, 64, 65, 66, 67, 68, 69, 70, 71, 72, 73, 74, 75, 76, 77, 78, 79, 80, 81, 82, 83, 84, 85, 86, 87, 88, 89, 90, 91, 92] (fun x => [(13, .s (.i .i64 x.2.2))]) (fun x => [⟨.rw, c.cl, 11⟩, ⟨.rw, x.2.1.cl, 11⟩]) (fun x => setM h a b x.1)
      (fun x => rightB x.2.1 = true ∧ x.2.1.ty = 2 ∧ 0 < x.2.2 ∧ x.2.2 ≤ 32 ∧ ∃ f : Nat, x.2.2 ≤ f ∧ K (way true w f x.1 x.2.1 x.2.2).v (setM h a b (way true w f x.1 x.2.1 x.2.2).m)) (fun x => x.2.2.toNat) (m, c, n) ?_ ?_ ?_
    · exact ⟨hr, ht, by show 0 < n; omega, by show n ≤ 32; omega, 32, by show n ≤ 32; omega, hR⟩
    · refine Wk.same rfl (setM_self H).symm ?_
      simp (config := { maxSteps := 10000000 }) only [EV1, EV2, EV3, EV4, EV5, EV6, addT, istep, lenR_sl, lenR_ns, lenR_es, pickR, putD, bin1R, un1R, slcR, bnd, capsOf, fillP, S_plain, V_plain, V.cells, S_known, V_known, C.v, blk, setL, setH, eqS, eq1, cmpS, cmp1, isNil, popTo, killT, setT, leT, V.below, C.below, S_below, R.below, V.val, C.val, S_val, R.val, R.takes, vals, shows, List.any_cons, List.any_nil, unnamed, V.kill, V.names, C.names, S_names, R.names, List.set, List.replicate, ↓q_cond_t, ↓q_cond_f, if_true, if_false, reduceCtorEq, rvals, rvC, result, C_known, V.noL, C.noL, S_noL, R.noL, Option.map, true_and, and_true, ge_iff_le, gt_iff_lt, implies_true, q_ite_t, q_ite_f, beq_iff_eq, bne_iff_ne, q_ne, Nat.reduceAdd, Nat.reducePow, Int.reducePow, Nat.reduceMul, Nat.reduceSub, Nat.reduceLeDiff, Nat.reduceLT, Nat.reduceEqDiff, Int.reduceNeg, Int.reduceLT, Int.reduceLE, Int.reduceEq, Int.reduceNe, Int.reduceAdd, Int.reduceSub, Int.reduceMul, Int.reduceToNat, Int.reduceBEq, Int.reduceBNe]
    · rintro X ⟨m', c', n'⟩ ⟨hr', ht', hn0, hn1, f, hf, hK⟩ IH
      simp only at hr' ht' hn0 hn1 hf hK
      obtain ⟨f, rfl⟩ : ∃ g, f = g + 1 := ⟨f - 1, by omega⟩
      obtain ⟨hb1, hb2, RB⟩ := node_facts hr' ht'
      have hg := RB.gbits
      have ho := RB.obj
      have ha := wayA_le (w := w) (n := n') hr' ht'
      have i1 := someB_le (w := w) (n := n' - c'.gbits - c'.bits) (k := c'.bits) ⟨by omega, hb2⟩
      have b1 : (0 : Int) ≤ c'.gbits ∧ c'.gbits ≤ 31 ∧ 0 ≤ n' ∧ n' ≤ 32 := by omega
      have b2 : 0 ≤ c'.bits ∧ c'.bits ≤ 31 := by omega
      by_cases g1 : n' < c'.gbits
      · simp only [way, g1, if_true] at hK
        simp only [RW.v] at hK
        refine run_sound (Tab.ok_Γ _) 200 _ _ _ _ ?_
        simp (config := { maxSteps := 10000000 }) only [EV1, EV2, EV3, EV4, EV5, EV6, addT, istep, lenR_sl, lenR_ns, lenR_es, pickR, putD, bin1R, un1R, slcR, bnd, capsOf, fillP, S_plain, V_plain, V.cells, S_known, V_known, C.v, blk, setL, setH, eqS, eq1, cmpS, cmp1, isNil, popTo, killT, setT, leT, V.below, C.below, S_below, R.below, V.val, C.val, S_val, R.val, R.takes, vals, shows, List.any_cons, List.any_nil, unnamed, V.kill, V.names, C.names, S_names, R.names, List.set, List.replicate, ↓q_cond_t, ↓q_cond_f, if_true, if_false, reduceCtorEq, rvals, rvC, result, C_known, V.noL, C.noL, S_noL, R.noL, Option.map, true_and, and_true, ge_iff_le, gt_iff_lt, implies_true, q_ite_t, q_ite_f, beq_iff_eq, bne_iff_ne, q_ne, Nat.reduceAdd, Nat.reducePow, Int.reducePow, Nat.reduceMul, Nat.reduceSub, Nat.reduceLeDiff, Nat.reduceLT, Nat.reduceEqDiff, Int.reduceNeg, Int.reduceLT, Int.reduceLE, Int.reduceEq, Int.reduceNe, Int.reduceAdd, Int.reduceSub, Int.reduceMul, Int.reduceToNat, Int.reduceBEq, Int.reduceBNe, TCs, bitsG, g1, b1, hu, Cap.cl, Blk.ren, List.map_cons, List.map_nil]
        exact hK
      have v1 : IntKind.i64.wrap (n' - c'.gbits) = n' - c'.gbits := wrap64 (by omega) (by omega)
      have v2 : IntKind.i64.wrap (n' - c'.gbits - c'.bits) = n' - c'.gbits - c'.bits := wrap64 (by omega) (by omega)
      have b3 : 0 ≤ n' - c'.gbits ∧ n' - c'.gbits ≤ 32 := by omega
      by_cases g2 : someB w (n' - c'.gbits) c'.gbits = c'.guard
      case neg =>
        simp only [way, g1, g2, if_true, if_false, not_false_eq_true] at hK
        simp only [RW.v] at hK
        have g2' : (someB w (n' - c'.gbits) c'.gbits != c'.guard) = true := by simpa using g2
        refine run_sound (Tab.ok_Γ _) 200 _ _ _ _ ?_
        simp (config := { maxSteps := 10000000 }) only [EV1, EV2, EV3, EV4, EV5, EV6, addT, istep, lenR_sl, lenR_ns, lenR_es, pickR, putD, bin1R, un1R, slcR, bnd, capsOf, fillP, S_plain, V_plain, V.cells, S_known, V_known, C.v, blk, setL, setH, eqS, eq1, cmpS, cmp1, isNil, popTo, killT, setT, leT, V.below, C.below, S_below, R.below, V.val, C.val, S_val, R.val, R.takes, vals, shows, List.any_cons, List.any_nil, unnamed, V.kill, V.names, C.names, S_names, R.names, List.set, List.replicate, ↓q_cond_t, ↓q_cond_f, if_true, if_false, reduceCtorEq, rvals, rvC, result, C_known, V.noL, C.noL, S_noL, R.noL, Option.map, true_and, and_true, ge_iff_le, gt_iff_lt, implies_true, q_ite_t, q_ite_f, beq_iff_eq, bne_iff_ne, q_ne, Nat.reduceAdd, Nat.reducePow, Int.reducePow, Nat.reduceMul, Nat.reduceSub, Nat.reduceLeDiff, Nat.reduceLT, Nat.reduceEqDiff, Int.reduceNeg, Int.reduceLT, Int.reduceLE, Int.reduceEq, Int.reduceNe, Int.reduceAdd, Int.reduceSub, Int.reduceMul, Int.reduceToNat, Int.reduceBEq, Int.reduceBNe, TCs, bitsG, g1, b1, b3, v1, hu, g2', Cap.cl, Blk.ren, List.map_cons, List.map_nil]
        exact hK
      have g2' : (someB w (n' - c'.gbits) c'.gbits != c'.guard) = false := by simpa using g2
      have b5 : 0 ≤ n' - c'.gbits - c'.bits ∨ n' - c'.gbits < c'.bits := by omega
      by_cases g3 : n' - c'.gbits < c'.bits
      · simp only [way, g1, g2, g3, if_true, if_false, not_true_eq_false] at hK
        simp only [RW.v] at hK
        refine run_sound (Tab.ok_Γ _) 200 _ _ _ _ ?_
        simp (config := { maxSteps := 10000000 }) only [EV1, EV2, EV3, EV4, EV5, EV6, addT, istep, lenR_sl, lenR_ns, lenR_es, pickR, putD, bin1R, un1R, slcR, bnd, capsOf, fillP, S_plain, V_plain, V.cells, S_known, V_known, C.v, blk, setL, setH, eqS, eq1, cmpS, cmp1, isNil, popTo, killT, setT, leT, V.below, C.below, S_below, R.below, V.val, C.val, S_val, R.val, R.takes, vals, shows, List.any_cons, List.any_nil, unnamed, V.kill, V.names, C.names, S_names, R.names, List.set, List.replicate, ↓q_cond_t, ↓q_cond_f, if_true, if_false, reduceCtorEq, rvals, rvC, result, C_known, V.noL, C.noL, S_noL, R.noL, Option.map, true_and, and_true, ge_iff_le, gt_iff_lt, implies_true, q_ite_t, q_ite_f, beq_iff_eq, bne_iff_ne, q_ne, Nat.reduceAdd, Nat.reducePow, Int.reducePow, Nat.reduceMul, Nat.reduceSub, Nat.reduceLeDiff, Nat.reduceLT, Nat.reduceEqDiff, Int.reduceNeg, Int.reduceLT, Int.reduceLE, Int.reduceEq, Int.reduceNe, Int.reduceAdd, Int.reduceSub, Int.reduceMul, Int.reduceToNat, Int.reduceBEq, Int.reduceBNe, TCs, bitsG, g1, b1, b2, b3, v1, hu, g2', g3, Cap.cl, Blk.ren, List.map_cons, List.map_nil]
        exact hK
      have b4 : 0 ≤ n' - c'.gbits - c'.bits ∧ n' - c'.gbits - c'.bits ≤ 32 := by omega
      have w4 : IntKind.i64.wrap (4 * someB w (n' - c'.gbits - c'.bits) c'.bits) = 4 * someB w (n' - c'.gbits - c'.bits) c'.bits := wrap64 (by omega) (by omega)
      have w5 : IntKind.i64.wrap (c'.obj + 4 * someB w (n' - c'.gbits - c'.bits) c'.bits) = wayA w c' n' := wrap64 (by omega) (by omega)
      obtain ⟨s, hs⟩ : ∃ s, m'.getV (wayA w c' n') = s := ⟨_, rfl⟩
      obtain ⟨e, he⟩ : ∃ e, m'.getE (wayA w c' n') = e := ⟨_, rfl⟩
      have hsr : e = 0 → rightB s.cap = true := fun h0 => by rw [← hs]; exact M.getV_right (he.trans h0)
      by_cases g4 : n' - c'.gbits - c'.bits = 0
      · simp only [way, g1, g2, g3, g4, if_true, if_false, not_true_eq_false, Bool.false_eq_true] at hK
        simp only [RW.v] at hK
        have g4' : (n' - c'.gbits - c'.bits == 0) = true := by simpa using g4
        refine run_sound (Tab.ok_Γ _) 300 _ _ _ _ ?_
        simp (config := { maxSteps := 10000000 }) only [EV1, EV2, EV3, EV4, EV5, EV6, addT, istep, lenR_sl, lenR_ns, lenR_es, pickR, putD, bin1R, un1R, slcR, bnd, capsOf, fillP, S_plain, V_plain, V.cells, S_known, V_known, C.v, blk, setL, setH, eqS, eq1, cmpS, cmp1, isNil, popTo, killT, setT, leT, V.below, C.below, S_below, R.below, V.val, C.val, S_val, R.val, R.takes, vals, shows, List.any_cons, List.any_nil, unnamed, V.kill, V.names, C.names, S_names, R.names, List.set, List.replicate, ↓q_cond_t, ↓q_cond_f, if_true, if_false, reduceCtorEq, rvals, rvC, result, C_known, V.noL, C.noL, S_noL, R.noL, Option.map, true_and, and_true, ge_iff_le, gt_iff_lt, implies_true, q_ite_t, q_ite_f, beq_iff_eq, bne_iff_ne, q_ne, Nat.reduceAdd, Nat.reducePow, Int.reducePow, Nat.reduceMul, Nat.reduceSub, Nat.reduceLeDiff, Nat.reduceLT, Nat.reduceEqDiff, Int.reduceNeg, Int.reduceLT, Int.reduceLE, Int.reduceEq, Int.reduceNe, Int.reduceAdd, Int.reduceSub, Int.reduceMul, Int.reduceToNat, Int.reduceBEq, Int.reduceBNe, TCs, bitsG, g1, b1, b2, b3, b4, v1, v2, hu, g2', g3, w4, w5, g4', get2G, memF_set H, get2M, he, hs, Slot.cl, Cap.cl, sub, put, List.take_succ_cons, List.take_zero, List.drop_zero]
        rw [g4]
        exact hK
      have g4' : (n' - c'.gbits - c'.bits == 0) = false := by simpa using g4
      by_cases g5 : e = 0
      case neg =>
        simp only [way, g1, g2, g3, g4, he, hs, g5, if_true, if_false, not_true_eq_false, false_and] at hK
        simp only [RW.v] at hK
        have g5' : (e != 0) = true := by simpa using g5
        refine run_sound (Tab.ok_Γ _) 300 _ _ _ _ ?_
        simp (config := { maxSteps := 10000000 }) only [EV1, EV2, EV3, EV4, EV5, EV6, addT, istep, lenR_sl, lenR_ns, lenR_es, pickR, putD, bin1R, un1R, slcR, bnd, capsOf, fillP, S_plain, V_plain, V.cells, S_known, V_known, C.v, blk, setL, setH, eqS, eq1, cmpS, cmp1, isNil, popTo, killT, setT, leT, V.below, C.below, S_below, R.below, V.val, C.val, S_val, R.val, R.takes, vals, shows, List.any_cons, List.any_nil, unnamed, V.kill, V.names, C.names, S_names, R.names, List.set, List.replicate, ↓q_cond_t, ↓q_cond_f, if_true, if_false, reduceCtorEq, rvals, rvC, result, C_known, V.noL, C.noL, S_noL, R.noL, Option.map, true_and, and_true, ge_iff_le, gt_iff_lt, implies_true, q_ite_t, q_ite_f, beq_iff_eq, bne_iff_ne, q_ne, Nat.reduceAdd, Nat.reducePow, Int.reducePow, Nat.reduceMul, Nat.reduceSub, Nat.reduceLeDiff, Nat.reduceLT, Nat.reduceEqDiff, Int.reduceNeg, Int.reduceLT, Int.reduceLE, Int.reduceEq, Int.reduceNe, Int.reduceAdd, Int.reduceSub, Int.reduceMul, Int.reduceToNat, Int.reduceBEq, Int.reduceBNe, TCs, bitsG, g1, b1, b2, b3, b4, v1, v2, hu, g2', g3, w4, w5, g4', get2G, memF_set H, get2M, he, hs, g5', Slot.cl, Cap.cl, sub, put, List.take_succ_cons, List.take_zero, List.drop_zero, Blk.ren, List.map_cons, List.map_nil]
        exact hK
      have g5' : (e != 0) = false := by simpa using g5
      by_cases g6 : s.cap.ty = 2
      case neg =>
        simp only [way, g1, g2, g3, g4, he, hs, g5, g6, if_true, if_false, not_true_eq_false, and_false] at hK
        simp only [RW.v] at hK
        have g6' : (s.cap.ty != 2) = true := by simpa using g6
        refine run_sound (Tab.ok_Γ _) 300 _ _ _ _ ?_
        simp (config := { maxSteps := 10000000 }) only [EV1, EV2, EV3, EV4, EV5, EV6, addT, istep, lenR_sl, lenR_ns, lenR_es, pickR, putD, bin1R, un1R, slcR, bnd, capsOf, fillP, S_plain, V_plain, V.cells, S_known, V_known, C.v, blk, setL, setH, eqS, eq1, cmpS, cmp1, isNil, popTo, killT, setT, leT, V.below, C.below, S_below, R.below, V.val, C.val, S_val, R.val, R.takes, vals, shows, List.any_cons, List.any_nil, unnamed, V.kill, V.names, C.names, S_names, R.names, List.set, List.replicate, ↓q_cond_t, ↓q_cond_f, if_true, if_false, reduceCtorEq, rvals, rvC, result, C_known, V.noL, C.noL, S_noL, R.noL, Option.map, true_and, and_true, ge_iff_le, gt_iff_lt, implies_true, q_ite_t, q_ite_f, beq_iff_eq, bne_iff_ne, q_ne, Nat.reduceAdd, Nat.reducePow, Int.reducePow, Nat.reduceMul, Nat.reduceSub, Nat.reduceLeDiff, Nat.reduceLT, Nat.reduceEqDiff, Int.reduceNeg, Int.reduceLT, Int.reduceLE, Int.reduceEq, Int.reduceNe, Int.reduceAdd, Int.reduceSub, Int.reduceMul, Int.reduceToNat, Int.reduceBEq, Int.reduceBNe, TCs, bitsG, g1, b1, b2, b3, b4, v1, v2, hu, g2', g3, w4, w5, g4', get2G, memF_set H, get2M, he, hs, g5', g6', Slot.cl, Cap.cl, sub, put, List.take_succ_cons, List.take_zero, List.drop_zero, Blk.ren, List.map_cons, List.map_nil]
        exact hK
      have g6' : (s.cap.ty != 2) = false := by simpa using g6
      simp only [way, g1, g2, g3, g4, he, hs, g5, g6, if_true, if_false, not_true_eq_false, and_true] at hK
      refine run_sound (Tab.ok_Γ _) 300 _ _ _ _ ?_
      simp (config := { maxSteps := 10000000 }) only [EV1, EV2, EV3, EV4, EV5, EV6, addT, istep, lenR_sl, lenR_ns, lenR_es, pickR, putD, bin1R, un1R, slcR, bnd, capsOf, fillP, S_plain, V_plain, V.cells, S_known, V_known, C.v, blk, setL, setH, eqS, eq1, cmpS, cmp1, isNil, popTo, killT, setT, leT, V.below, C.below, S_below, R.below, V.val, C.val, S_val, R.val, R.takes, vals, shows, List.any_cons, List.any_nil, unnamed, V.kill, V.names, C.names, S_names, R.names, List.set, List.replicate, ↓q_cond_t, ↓q_cond_f, if_true, if_false, reduceCtorEq, rvals, rvC, result, C_known, V.noL, C.noL, S_noL, R.noL, Option.map, true_and, and_true, ge_iff_le, gt_iff_lt, implies_true, q_ite_t, q_ite_f, beq_iff_eq, bne_iff_ne, q_ne, Nat.reduceAdd, Nat.reducePow, Int.reducePow, Nat.reduceMul, Nat.reduceSub, Nat.reduceLeDiff, Nat.reduceLT, Nat.reduceEqDiff, Int.reduceNeg, Int.reduceLT, Int.reduceLE, Int.reduceEq, Int.reduceNe, Int.reduceAdd, Int.reduceSub, Int.reduceMul, Int.reduceToNat, Int.reduceBEq, Int.reduceBNe, TCs, bitsG, g1, b1, b2, b3, b4, v1, v2, hu, g2', g3, w4, w5, g4', get2G, memF_set H, get2M, he, hs, g5', g6', Slot.cl, Cap.cl, sub, put, List.take_succ_cons, List.take_zero, List.drop_zero, Blk.ren, List.map_cons, List.map_nil]
      refine IH (m'.getX (wayA w c' n'), s.cap, n' - c'.gbits - c'.bits) _ ?_ ⟨hsr g5, g6, ?_, ?_, f, ?_, hK⟩ ?_
      · show (n' - c'.gbits - c'.bits).toNat < n'.toNat
        omega
      · show 0 < n' - c'.gbits - c'.bits
        omega
      · show n' - c'.gbits - c'.bits ≤ 32
        omega
      · show n' - c'.gbits - c'.bits ≤ f
        omega
      · refine Wk.keep 2 rfl rfl ?_ ?_ ?_
        all_goals simp (config := { maxSteps := 10000000 }) only [EV1, EV2, EV3, EV4, EV5, EV6, addT, istep, lenR_sl, lenR_ns, lenR_es, pickR, putD, bin1R, un1R, slcR, bnd, capsOf, fillP, S_plain, V_plain, V.cells, S_known, V_known, C.v, blk, setL, setH, eqS, eq1, cmpS, cmp1, isNil, popTo, killT, setT, leT, V.below, C.below, S_below, R.below, V.val, C.val, S_val, R.val, R.takes, vals, shows, List.any_cons, List.any_nil, unnamed, V.kill, V.names, C.names, S_names, R.names, List.set, List.replicate, ↓q_cond_t, ↓q_cond_f, if_true, if_false, reduceCtorEq, rvals, rvC, result, C_known, V.noL, C.noL, S_noL, R.noL, Option.map, true_and, and_true, ge_iff_le, gt_iff_lt, implies_true, q_ite_t, q_ite_f, beq_iff_eq, bne_iff_ne, q_ne, Nat.reduceAdd, Nat.reducePow, Int.reducePow, Nat.reduceMul, Nat.reduceSub, Nat.reduceLeDiff, Nat.reduceLT, Nat.reduceEqDiff, Int.reduceNeg, Int.reduceLT, Int.reduceLE, Int.reduceEq, Int.reduceNe, Int.reduceAdd, Int.reduceSub, Int.reduceMul, Int.reduceToNat, Int.reduceBEq, Int.reduceBNe, Cap.cl]
  · exact hS.elim
end Go.Proofs.Ytdlloccodmdnnaa

