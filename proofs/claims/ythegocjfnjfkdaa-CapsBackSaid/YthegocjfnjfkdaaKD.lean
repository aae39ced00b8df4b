/- Law 06: awake. -/
import Derived.Test.YthegocjfnjfkdaaKC
namespace Go.Proofs.Ythegocjfnjfkdaa
open Go.D
set_option linter.all false
set_option maxRecDepth 100000
set_option maxHeartbeats 4000000

def TA6 : Tab := addT 17 encG (addT 19 decG (addT 15 rightG (addT 21 capWG (addT 23 sameG noT))))
theorem TA6_snd : TA6.Snd Try.prog := addT_snd ok17 enc_snd (addT_snd ok19 dec_snd (addT_snd ok15 right_snd (addT_snd ok21 words_snd (addT_snd ok23 same_snd (noT_snd _)))))
def awake6G : List V → List Blk → Res
  | [], h => .ok (.s (.b true)) [] h
  | _, _ => .bad
theorem awake6_snd : Snd Try.prog 14 (FSpec.of awake6G) := snd_run TA6_snd mixed Try.func14 dc14 200 fun args h K hc hS => by
  unfold awake6G at hS
  split at hS
  · simp only [spec_ok] at hS
    have a1 : rightB ⟨4, 1024, 0, 0, 0, 0, 5, 7, 0, 0, 0⟩ = true := by decide
    have a2 : (⟨4, 1024, 0, 0, 0, 0, 5, 7, 0, 0, 0⟩ : Cap).w0 = 234897412 := by decide
    have a3 : (⟨4, 1024, 0, 0, 0, 0, 5, 7, 0, 0, 0⟩ : Cap).num = 5 := by decide
    have a4 : decB 11567105 64 = true := by decide
    have a5 : decC 11567105 64 = ⟨1, 2048, 11, 64, 0, 0, 0, 0, 0, 0, 0⟩ := by rfl
    have a6 : rightB ⟨1, 1024, 11, 0, 0, 0, 0, 0, 0, 0, 0⟩ = false := by decide
    have a7 : decB 14 0 = false := by decide
    have a8 : rightB ⟨2, 2048, 8, 0, 0, 0, 0, 0, 0, 0, 0⟩ = true := by decide
    have a9 : szN ⟨2, 2048, 8, 0, 0, 0, 0, 0, 0, 0, 0⟩ = 1024 := by decide
    have aa : sameB ⟨5, 1024, 0, 0, 0, 0, 1, 0, 0, 0, 0⟩ ⟨5, 1024, 0, 0, 0, 0, 0, 0, 0, 0, 0⟩ = true := by decide
    have b1 : u64 11567105 ∧ u64 64 := by simp only [u64]; omega
    have b2 : u64 14 ∧ u64 0 := by simp only [u64]; omega
    simp (config := { maxSteps := 10000000 }) only [run_je, resume_leaf, resume_all, resume_bad, resume_res, resume_cond, resume_ob, join_leaf, join_ob1, join_ob2, obS_true, obS_false, zipC_nil, zipC_cons, jv_self, jv_b, jv_i, cond_ff, cond_tt, cond_ft, cond_tf, cond_same, run_zero, run_nil, run_blk, run_lp, run_gi0, run_gi, run_gig, run_q0, run_q, run_qg, run_skip, run_reg, run_drt, run_drq, cut_s, cut_0, run_drm, frames_nil, frames_q, frames_g, run_seq, run_cond, run_block, run_loop, run_exit, run_ret, cont_ok, cont_br, cont_ob, cont_call, cont_app, cont_bad, cont_all, contG_all, into_all, unlend_all, contG_ok, contG_br, contG_ob, contG_call, contG_app, contG_bad, contQ_ok, contQ_br, contQ_ob, contQ_call, contQ_callv, contQ_bad, contQ2_ok, contQ2_br, contQ2_ob, contQG_some, contQH_ok, contQH_br, contQH_ob, guard_b, guard_t, guardQ_b, guardQ_t, condV_b, exitV_some, callR_t, callR_f, callO_some, callO_none, callL_some, callL_none, into_ok, into_ob, into_br, unlend_ok, unlend_ob, unlend_br, addT, istep, pickR, ev_t, ev_k, tg_some, putD, bin1R, un1R, slcR, bnd, capsOf, fillP, put_nil, put_succ, put_zero, V.plain, V.cells, V.known, C.v, known_nil, known_cons, blk, setL, setH, eqS, eq1, cmpS, cmp1, isNil, popTo, killT, setT, leT, V.below, S.below, R.below, V.val, C.val, S.val, R.val, R.takes, vals, shows, unnamed, V.kill, V.names, C.names, S.names, R.names, List.map_cons, List.map_nil, q_all_cons, q_all_nil, List.set, q_get0, q_getS, q_getN, q_len_cons, q_len_nil, q_cons_app, q_nil_app, List.append_nil, List.append_assoc, List.length_append, app_get0, app_getn, app_set0, app_setn, List.replicate, ↓q_cond_t, ↓q_cond_f, Bool.and_true, Bool.true_and, Bool.and_false, Bool.false_and, Bool.or_true, Bool.true_or, Bool.or_false, Bool.false_or, Bool.not_true, Bool.not_false, if_true, if_false, Bool.false_eq_true, reduceCtorEq, holds_done, holds_obS, holds_all, holds_lp, holds_bad, holds_cond_eq, fin_ret, fin_nrm, finO_some, leave_eq, leaveB_true, rvals, rval_t, rval_c, rvT_s, rvT_agg, rvC, result, C.known, V.noL, C.noL, S.noL, R.noL, Option.map, true_and, and_true, false_and, and_false, ge_iff_le, gt_iff_lt, q_cast, false_imp_iff, true_imp_iff, implies_true, not_true_eq_false, Classical.not_not, q_ite_t, q_ite_f, true_or, or_true, or_self, or_false, false_or, Nat.lt_irrefl, Nat.one_mul, Nat.mul_one, decide_true, decide_false, decide_eq_true_eq, Bool.not_eq_true', Bool.not_eq_false', Bool.and_eq_true, Bool.or_eq_true, Bool.eq_false_iff, beq_iff_eq, bne_iff_ne, Nat.zero_add, q_add_zero, Nat.zero_mul, Nat.le_refl, q_ne, not_false_eq_true, q_toNat, sub_succ, sub_zero, sub_none, List.length_set, Nat.reduceAdd, Nat.reducePow, Int.reducePow, Nat.reduceMul, Nat.reduceSub, Nat.reduceLeDiff, Nat.reduceLT, Nat.reduceEqDiff, Int.reduceNeg, Int.reduceLT, Int.reduceLE, Int.reduceEq, Int.reduceNe, Int.reduceAdd, Int.reduceSub, Int.reduceMul, Int.reduceToNat, beq_self_eq_true, bne_self_eq_false, Int.reduceBEq, Int.reduceBNe, df14, TA6, encG, decG, rightG, capWG, sameG, cap2F, capF, a1, a2, a3, a4, a5, a6, a7, a8, a9, aa, b1, b2, Cap.cl, capZ, put, fillP]
    exact hS
  · exact hS.elim
end Go.Proofs.Ythegocjfnjfkdaa
