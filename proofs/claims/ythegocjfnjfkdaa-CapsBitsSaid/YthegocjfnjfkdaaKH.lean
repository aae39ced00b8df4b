/- Law 06: CapsBack. -/
import Derived.Test.YthegocjfnjfkdaaKG
namespace Go.Proofs.Ythegocjfnjfkdaa
open Go.D
set_option linter.all false
set_option maxRecDepth 100000
set_option maxHeartbeats 4000000

theorem right_size {c : Cap} (h : rightB c = true) (hn : 0 < szN c) : 1024 ≤ c.obj ∧ c.obj + szN c ≤ 65536 ∧ c.obj.tmod (szN c) = 0 := by
  have hb := right_bounds h
  obtain ⟨t, o, b, d, e, g, i, j, k, l, m⟩ := c
  have ho := hb.obj
  simp only at ho
  simp only [rightB] at h
  simp only [szN] at hn ⊢
  rcases kinds t with rfl | rfl | rfl | rfl | rfl | rfl | rfl | rfl | rfl | rfl | rfl | rfl | rfl | rfl | ⟨k0, k1, k2, k3, k4, k5, k6, k7, k8, k9, k10, k11, k12, k13, hx⟩
  case inr.inr.inr.inr.inr.inr.inr.inr.inr.inr.inr.inr.inr.inr => simp only [k0, k1, k2, k3, k4, k5, k6, k7, k8, k9, k10, k11, k12, k13, if_false] at hn; exact absurd hn (by decide)
  all_goals simp only [Int.reduceEq, if_true, if_false, ite_t, ite_f, not_or, Classical.not_not, nOk_iff, not_and] at h hn ⊢
  all_goals try exact absurd hn (by decide)
  case inr.inl =>
    have hb : 4 ≤ b ∧ b ≤ 15 := by have := h.1.1; simpa [Classical.not_imp] using this
    have h2 := h.2.1 hn
    have hc : b = 4 ∨ b = 5 ∨ b = 6 ∨ b = 7 ∨ b = 8 ∨ b = 9 ∨ b = 10 ∨ b = 11 ∨ b = 12 ∨ b = 13 ∨ b = 14 ∨ b = 15 := by omega
    rw [uRaw_eq hb] at h2 ⊢
    rcases hc with rfl | rfl | rfl | rfl | rfl | rfl | rfl | rfl | rfl | rfl | rfl | rfl <;> simp only [Int.reduceToNat, Int.reducePow] at h2 ⊢ <;> rw [Int.tmod_eq_emod_of_nonneg ho.1] at h2 ⊢ <;> omega
  case inr.inr.inl =>
    have hb : 1 ≤ b ∧ b ≤ 8 := by have := h.1.1; simpa [Classical.not_imp] using this
    have h2 := h.2.1 hn
    have hc : b = 1 ∨ b = 2 ∨ b = 3 ∨ b = 4 ∨ b = 5 ∨ b = 6 ∨ b = 7 ∨ b = 8 := by omega
    rw [nRaw_eq hb] at h2 ⊢
    rcases hc with rfl | rfl | rfl | rfl | rfl | rfl | rfl | rfl <;> simp only [Int.reduceToNat, Int.reducePow, Int.reduceMul] at h2 ⊢ <;> rw [Int.tmod_eq_emod_of_nonneg ho.1] at h2 ⊢ <;> omega
  case inr.inr.inr.inr.inr.inr.inr.inr.inr.inr.inl =>
    have h2 := h.2.1 hn
    rcases zrange.1 h.1.1 with rfl | hb
    · simp only [if_true] at h2 ⊢; rw [Int.tmod_eq_emod_of_nonneg ho.1] at h2 ⊢; omega
    · have hc : b = 1 ∨ b = 2 ∨ b = 3 ∨ b = 4 ∨ b = 5 ∨ b = 6 ∨ b = 7 ∨ b = 8 := by omega
      rw [if_neg (by omega), nRaw_eq hb] at h2 ⊢
      rcases hc with rfl | rfl | rfl | rfl | rfl | rfl | rfl | rfl <;> simp only [Int.reduceToNat, Int.reducePow, Int.reduceMul] at h2 ⊢ <;> rw [Int.tmod_eq_emod_of_nonneg ho.1] at h2 ⊢ <;> omega
  all_goals
    have h2 := h.2.1
    rw [Int.tmod_eq_emod_of_nonneg ho.1] at h2 ⊢
    omega

def capsBackG (args : List V) (h : List Blk) : Res := cap2F (fun c d => .ok (.s (.b true)) [] h) args
theorem capsBack_snd : Snd Try.prog 4 (FSpec.of capsBackG) := snd_run T6_snd mixed Try.func4 dc4 300 fun args h K hc hS => by
  obtain ⟨c, d, rfl, hR⟩ := cap2F_spec hS
  clear hS
  simp only [spec_ok] at hR
  cases hr : rightB c with
  | false =>
    simp only [Cap.cl]
    cases hd : rightB d <;> simp (config := { maxSteps := 10000000 }) only [run_je, resume_leaf, resume_all, resume_bad, resume_res, resume_cond, resume_ob, join_leaf, join_ob1, join_ob2, obS_true, obS_false, zipC_nil, zipC_cons, jv_self, jv_b, jv_i, cond_ff, cond_tt, cond_ft, cond_tf, cond_same, run_zero, run_nil, run_blk, run_lp, run_gi0, run_gi, run_gig, run_q0, run_q, run_qg, run_skip, run_reg, run_drt, run_drq, cut_s, cut_0, run_drm, frames_nil, frames_q, frames_g, run_seq, run_cond, run_block, run_loop, run_exit, run_ret, cont_ok, cont_br, cont_ob, cont_call, cont_app, cont_bad, cont_all, contG_all, into_all, unlend_all, contG_ok, contG_br, contG_ob, contG_call, contG_app, contG_bad, contQ_ok, contQ_br, contQ_ob, contQ_call, contQ_callv, contQ_bad, contQ2_ok, contQ2_br, contQ2_ob, contQG_some, contQH_ok, contQH_br, contQH_ob, guard_b, guard_t, guardQ_b, guardQ_t, condV_b, exitV_some, callR_t, callR_f, callO_some, callO_none, callL_some, callL_none, into_ok, into_ob, into_br, unlend_ok, unlend_ob, unlend_br, addT, istep, pickR, ev_t, ev_k, tg_some, putD, bin1R, un1R, slcR, bnd, capsOf, fillP, put_nil, put_succ, put_zero, V.plain, V.cells, V.known, C.v, known_nil, known_cons, blk, setL, setH, eqS, eq1, cmpS, cmp1, isNil, popTo, killT, setT, leT, V.below, S.below, R.below, V.val, C.val, S.val, R.val, R.takes, vals, shows, unnamed, V.kill, V.names, C.names, S.names, R.names, List.map_cons, List.map_nil, q_all_cons, q_all_nil, List.set, q_get0, q_getS, q_getN, q_len_cons, q_len_nil, q_cons_app, q_nil_app, List.append_nil, List.append_assoc, List.length_append, app_get0, app_getn, app_set0, app_setn, List.replicate, ↓q_cond_t, ↓q_cond_f, Bool.and_true, Bool.true_and, Bool.and_false, Bool.false_and, Bool.or_true, Bool.true_or, Bool.or_false, Bool.false_or, Bool.not_true, Bool.not_false, if_true, if_false, Bool.false_eq_true, reduceCtorEq, holds_done, holds_obS, holds_all, holds_lp, holds_bad, holds_cond_eq, fin_ret, fin_nrm, finO_some, leave_eq, leaveB_true, rvals, rval_t, rval_c, rvT_s, rvT_agg, rvC, result, C.known, V.noL, C.noL, S.noL, R.noL, Option.map, true_and, and_true, false_and, and_false, ge_iff_le, gt_iff_lt, q_cast, false_imp_iff, true_imp_iff, implies_true, not_true_eq_false, Classical.not_not, q_ite_t, q_ite_f, true_or, or_true, or_self, or_false, false_or, Nat.lt_irrefl, Nat.one_mul, Nat.mul_one, decide_true, decide_false, decide_eq_true_eq, Bool.not_eq_true', Bool.not_eq_false', Bool.and_eq_true, Bool.or_eq_true, Bool.eq_false_iff, beq_iff_eq, bne_iff_ne, Nat.zero_add, q_add_zero, Nat.zero_mul, Nat.le_refl, q_ne, not_false_eq_true, q_toNat, sub_succ, sub_zero, sub_none, List.length_set, Nat.reduceAdd, Nat.reducePow, Int.reducePow, Nat.reduceMul, Nat.reduceSub, Nat.reduceLeDiff, Nat.reduceLT, Nat.reduceEqDiff, Int.reduceNeg, Int.reduceLT, Int.reduceLE, Int.reduceEq, Int.reduceNe, Int.reduceAdd, Int.reduceSub, Int.reduceMul, Int.reduceToNat, beq_self_eq_true, bne_self_eq_false, Int.reduceBEq, Int.reduceBNe, df4, T6, awake6G, encG, decG, rightG, capWG, sameG, cap2F, capF, cap_eta, hr, hd, Cap.cl, capZ, put, fillP] <;> exact hR
  | true =>
    obtain ⟨b1, b2, b3, b4⟩ := enc_back hr
    simp only [Cap.cl]
    cases hd : rightB d
    all_goals simp (config := { maxSteps := 10000000 }) only [run_je, resume_leaf, resume_all, resume_bad, resume_res, resume_cond, resume_ob, join_leaf, join_ob1, join_ob2, obS_true, obS_false, zipC_nil, zipC_cons, jv_self, jv_b, jv_i, cond_ff, cond_tt, cond_ft, cond_tf, cond_same, run_zero, run_nil, run_blk, run_lp, run_gi0, run_gi, run_gig, run_q0, run_q, run_qg, run_skip, run_reg, run_drt, run_drq, cut_s, cut_0, run_drm, frames_nil, frames_q, frames_g, run_seq, run_cond, run_block, run_loop, run_exit, run_ret, cont_ok, cont_br, cont_ob, cont_call, cont_app, cont_bad, cont_all, contG_all, into_all, unlend_all, contG_ok, contG_br, contG_ob, contG_call, contG_app, contG_bad, contQ_ok, contQ_br, contQ_ob, contQ_call, contQ_callv, contQ_bad, contQ2_ok, contQ2_br, contQ2_ob, contQG_some, contQH_ok, contQH_br, contQH_ob, guard_b, guard_t, guardQ_b, guardQ_t, condV_b, exitV_some, callR_t, callR_f, callO_some, callO_none, callL_some, callL_none, into_ok, into_ob, into_br, unlend_ok, unlend_ob, unlend_br, addT, istep, pickR, ev_t, ev_k, tg_some, putD, bin1R, un1R, slcR, bnd, capsOf, fillP, put_nil, put_succ, put_zero, V.plain, V.cells, V.known, C.v, known_nil, known_cons, blk, setL, setH, eqS, eq1, cmpS, cmp1, isNil, popTo, killT, setT, leT, V.below, S.below, R.below, V.val, C.val, S.val, R.val, R.takes, vals, shows, unnamed, V.kill, V.names, C.names, S.names, R.names, List.map_cons, List.map_nil, q_all_cons, q_all_nil, List.set, q_get0, q_getS, q_getN, q_len_cons, q_len_nil, q_cons_app, q_nil_app, List.append_nil, List.append_assoc, List.length_append, app_get0, app_getn, app_set0, app_setn, List.replicate, ↓q_cond_t, ↓q_cond_f, Bool.and_true, Bool.true_and, Bool.and_false, Bool.false_and, Bool.or_true, Bool.true_or, Bool.or_false, Bool.false_or, Bool.not_true, Bool.not_false, if_true, if_false, Bool.false_eq_true, reduceCtorEq, holds_done, holds_obS, holds_all, holds_lp, holds_bad, holds_cond_eq, fin_ret, fin_nrm, finO_some, leave_eq, leaveB_true, rvals, rval_t, rval_c, rvT_s, rvT_agg, rvC, result, C.known, V.noL, C.noL, S.noL, R.noL, Option.map, true_and, and_true, false_and, and_false, ge_iff_le, gt_iff_lt, q_cast, false_imp_iff, true_imp_iff, implies_true, not_true_eq_false, Classical.not_not, q_ite_t, q_ite_f, true_or, or_true, or_self, or_false, false_or, Nat.lt_irrefl, Nat.one_mul, Nat.mul_one, decide_true, decide_false, decide_eq_true_eq, Bool.not_eq_true', Bool.not_eq_false', Bool.and_eq_true, Bool.or_eq_true, Bool.eq_false_iff, beq_iff_eq, bne_iff_ne, Nat.zero_add, q_add_zero, Nat.zero_mul, Nat.le_refl, q_ne, not_false_eq_true, q_toNat, sub_succ, sub_zero, sub_none, List.length_set, Nat.reduceAdd, Nat.reducePow, Int.reducePow, Nat.reduceMul, Nat.reduceSub, Nat.reduceLeDiff, Nat.reduceLT, Nat.reduceEqDiff, Int.reduceNeg, Int.reduceLT, Int.reduceLE, Int.reduceEq, Int.reduceNe, Int.reduceAdd, Int.reduceSub, Int.reduceMul, Int.reduceToNat, beq_self_eq_true, bne_self_eq_false, Int.reduceBEq, Int.reduceBNe, df4, T6, awake6G, encG, decG, rightG, capWG, sameG, cap2F, capF, cap_eta, hr, hd, b1, b2, b3, b4, Cap.cl, capZ, put, fillP]
    all_goals
      have hz := right_size hr
      have hb := (right_bounds hr).obj
      have hw : 0 < szN c → IntKind.i64.wrap (c.obj + szN c) = c.obj + szN c := fun n => wrap64 (by omega) (by have := hz n; omega)
      refine ⟨fun n _ _ => by omega, fun n => ?_, fun _ => ?_⟩
      · obtain ⟨n, n2⟩ := n
        rw [hw n] at n2
        have := hz n
        exact n2.elim (fun x => by omega) fun y => y.elim (fun x => by omega) fun x => absurd this.2.2 x
    · exact hR
    · obtain ⟨q1, q2, q3, q4⟩ := enc_back hd
      have hcd : c.w0 = d.w0 → c.num = d.num → c = d := fun e1 e2 => by rw [← b4, ← q4, e1, e2]
      refine cast (congrArg (fun x => K (V.s (S.b x)) h) ?_) hR
      by_cases e : c = d
      · subst e; simp
      · by_cases e1 : c.w0 = d.w0
        · have e2 : ¬ c.num = d.num := fun e2 => e (hcd e1 e2)
          simp only [e1, beq_self_eq_true, cond_true]
          rw [show (c.num == d.num) = false by simpa using e2]
          rw [eq_comm, beq_iff_eq, eq_comm, Bool.eq_false_iff]
          simp only [ne_eq, Bool.and_eq_true, beq_iff_eq]
          exact fun x => e (Cap.ext' x.1 x.2.1 x.2.2.1 x.2.2.2.1 x.2.2.2.2.1 x.2.2.2.2.2.1 x.2.2.2.2.2.2.1 x.2.2.2.2.2.2.2.1 x.2.2.2.2.2.2.2.2.1 x.2.2.2.2.2.2.2.2.2.1 x.2.2.2.2.2.2.2.2.2.2)
        · rw [show (c.w0 == d.w0) = false by simpa using e1, cond_false]
          rw [eq_comm, beq_iff_eq, eq_comm, Bool.eq_false_iff]
          simp only [ne_eq, Bool.and_eq_true, beq_iff_eq]
          exact fun x => e (Cap.ext' x.1 x.2.1 x.2.2.1 x.2.2.2.1 x.2.2.2.2.1 x.2.2.2.2.2.1 x.2.2.2.2.2.2.1 x.2.2.2.2.2.2.2.1 x.2.2.2.2.2.2.2.2.1 x.2.2.2.2.2.2.2.2.2.1 x.2.2.2.2.2.2.2.2.2.2)
end Go.Proofs.Ythegocjfnjfkdaa
