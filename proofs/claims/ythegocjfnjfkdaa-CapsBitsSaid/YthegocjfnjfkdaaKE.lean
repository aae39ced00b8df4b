/- Law 06: CapsWords. -/
import Derived.Test.YthegocjfnjfkdaaKD
namespace Go.Proofs.Ythegocjfnjfkdaa
open Go.D
set_option linter.all false
set_option maxRecDepth 100000
set_option maxHeartbeats 4000000

def T6 : Tab := addT 14 awake6G (addT 17 encG (addT 19 decG (addT 15 rightG (addT 21 capWG (addT 23 sameG
  (addT 18 encG (addT 20 decG (addT 16 rightG (addT 22 capWG (addT 24 sameG noT))))))))))
theorem T6_snd : T6.Snd Try.prog := addT_snd ok14 awake6_snd (addT_snd ok17 enc_snd (addT_snd ok19 dec_snd (addT_snd ok15 right_snd (addT_snd ok21 words_snd (addT_snd ok23 same_snd
  (addT_snd ok18 renc_snd (addT_snd ok20 rdec_snd (addT_snd ok16 rright_snd (addT_snd ok22 rwords_snd (addT_snd ok24 rsame_snd (noT_snd _)))))))))))

def capsWordsG : List V → List Blk → Res
  | [.agg [.i .i64 a, .i .i64 b, .i .i64 c, .i .i64 d, .i .i64 e, .i .i64 g, .i .i64 i, .i .i64 j, .i .i64 k, .i .i64 l, .i .i64 m, .i .i64 a2, .i .i64 b2, .i .i64 c2, .i .i64 d2, .i .i64 e2, .i .i64 g2, .i .i64 i2, .i .i64 j2, .i .i64 k2, .i .i64 l2, .i .i64 m2, .i .u64 w0, .i .u64 w1]], h => .ob (u64 w0 ∧ u64 w1) (.ok (.s (.b true)) [] h)
  | _, _ => .bad
theorem capsWords_snd : Snd Try.prog 3 (FSpec.of capsWordsG) := snd_run T6_snd mixed Try.func3 dc3 300 fun args h K hc hS => by
  unfold capsWordsG at hS
  split at hS
  · rename_i a b c d e g i j k l m a2 b2 c2 d2 e2 g2 i2 j2 k2 l2 m2 w0 w1
    obtain ⟨hw, hS⟩ := hS
    simp only [spec_ok] at hS
    cases hr : rightB ⟨a, b, c, d, e, g, i, j, k, l, m⟩ <;> cases hd : decB w0 w1
    all_goals simp (config := { maxSteps := 10000000 }) only [run_je, resume_leaf, resume_all, resume_bad, resume_res, resume_cond, resume_ob, join_leaf, join_ob1, join_ob2, obS_true, obS_false, zipC_nil, zipC_cons, jv_self, jv_b, jv_i, cond_ff, cond_tt, cond_ft, cond_tf, cond_same, run_zero, run_nil, run_blk, run_lp, run_gi0, run_gi, run_gig, run_q0, run_q, run_qg, run_skip, run_reg, run_drt, run_drq, cut_s, cut_0, run_drm, frames_nil, frames_q, frames_g, run_seq, run_cond, run_block, run_loop, run_exit, run_ret, cont_ok, cont_br, cont_ob, cont_call, cont_app, cont_bad, cont_all, contG_all, into_all, unlend_all, contG_ok, contG_br, contG_ob, contG_call, contG_app, contG_bad, contQ_ok, contQ_br, contQ_ob, contQ_call, contQ_callv, contQ_bad, contQ2_ok, contQ2_br, contQ2_ob, contQG_some, contQH_ok, contQH_br, contQH_ob, guard_b, guard_t, guardQ_b, guardQ_t, condV_b, exitV_some, callR_t, callR_f, callO_some, callO_none, callL_some, callL_none, into_ok, into_ob, into_br, unlend_ok, unlend_ob, unlend_br, addT, istep, pickR, ev_t, ev_k, tg_some, putD, bin1R, un1R, slcR, bnd, capsOf, fillP, put_nil, put_succ, put_zero, V.plain, V.cells, V.known, C.v, known_nil, known_cons, blk, setL, setH, eqS, eq1, cmpS, cmp1, isNil, popTo, killT, setT, leT, V.below, S.below, R.below, V.val, C.val, S.val, R.val, R.takes, vals, shows, unnamed, V.kill, V.names, C.names, S.names, R.names, List.map_cons, List.map_nil, q_all_cons, q_all_nil, List.set, q_get0, q_getS, q_getN, q_len_cons, q_len_nil, q_cons_app, q_nil_app, List.append_nil, List.append_assoc, List.length_append, app_get0, app_getn, app_set0, app_setn, List.replicate, ↓q_cond_t, ↓q_cond_f, Bool.and_true, Bool.true_and, Bool.and_false, Bool.false_and, Bool.or_true, Bool.true_or, Bool.or_false, Bool.false_or, Bool.not_true, Bool.not_false, if_true, if_false, Bool.false_eq_true, reduceCtorEq, holds_done, holds_obS, holds_all, holds_lp, holds_bad, holds_cond_eq, fin_ret, fin_nrm, finO_some, leave_eq, leaveB_true, rvals, rval_t, rval_c, rvT_s, rvT_agg, rvC, result, C.known, V.noL, C.noL, S.noL, R.noL, Option.map, true_and, and_true, false_and, and_false, ge_iff_le, gt_iff_lt, q_cast, false_imp_iff, true_imp_iff, implies_true, not_true_eq_false, Classical.not_not, q_ite_t, q_ite_f, true_or, or_true, or_self, or_false, false_or, Nat.lt_irrefl, Nat.one_mul, Nat.mul_one, decide_true, decide_false, decide_eq_true_eq, Bool.not_eq_true', Bool.not_eq_false', Bool.and_eq_true, Bool.or_eq_true, Bool.eq_false_iff, beq_iff_eq, bne_iff_ne, Nat.zero_add, q_add_zero, Nat.zero_mul, Nat.le_refl, q_ne, not_false_eq_true, q_toNat, sub_succ, sub_zero, sub_none, List.length_set, Nat.reduceAdd, Nat.reducePow, Int.reducePow, Nat.reduceMul, Nat.reduceSub, Nat.reduceLeDiff, Nat.reduceLT, Nat.reduceEqDiff, Int.reduceNeg, Int.reduceLT, Int.reduceLE, Int.reduceEq, Int.reduceNe, Int.reduceAdd, Int.reduceSub, Int.reduceMul, Int.reduceToNat, beq_self_eq_true, bne_self_eq_false, Int.reduceBEq, Int.reduceBNe, df3, T6, awake6G, encG, decG, rightG, capWG, sameG, cap2F, capF, hr, hd, hw, Cap.cl, capZ, put, fillP, sub, List.drop, List.take, List.drop_succ_cons, List.drop_zero, List.take_succ_cons, List.take_zero]
    all_goals exact hS
  · exact hS.elim
end Go.Proofs.Ythegocjfnjfkdaa
