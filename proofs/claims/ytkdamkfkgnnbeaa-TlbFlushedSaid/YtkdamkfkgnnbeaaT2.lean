/- The statement TlbFull: what its Go function answers. -/
import Derived.Test.YtkdamkfkgnnbeaaT1
namespace Go.Proofs.Ytkdamkfkgnnbeaa
open Go.D
set_option linter.all false
set_option maxRecDepth 100000
set_option maxHeartbeats 4000000

def G3 : Tab := addT 8 newG (addT 9 fillG (addT 10 findG (addT 16 evictG (addT 17 linesG noT))))
theorem G3_snd : G3.Snd Try.prog := addT_snd ok8 new_snd (addT_snd ok9 fill_snd (addT_snd ok10 find_snd (addT_snd ok16 evict_snd (addT_snd ok17 lines_snd (noT_snd _)))))

abbrev z : Ln := Ln.z
def w1 : Ln := ⟨1, 7, 2048, 3⟩
def w2 : Ln := ⟨1, 7, 2064, 1⟩

def awakeG : List V → List Blk → Res
  | [], h => .ok (.s (.b true)) [] (h ++ [tlbB [w2, z, z, z, z, z, z, z], ownB [w2, z, z, z, z, z, z, z]])
  | _, _ => .bad

theorem awake_snd : Snd Try.prog 7 (FSpec.of awakeG) := snd_run G3_snd mixed Try.func7 dc7 300 fun args h K _ hS => by
  unfold awakeG at hS
  split at hS
  · rw [spec_ok] at hS
    have f1 : fillB ⟨1, 7, 2048, 3⟩ 0 = true := by decide
    have f2 : fillB ⟨1, 7, 2064, 1⟩ 5 = true := by decide
    have f3 : fillB ⟨1, 7, 2049, 1⟩ 5 = false := by decide
    have s1 : slotF ⟨1, 7, 2048, 3⟩ 0 [Ln.z, Ln.z, Ln.z, Ln.z, Ln.z, Ln.z, Ln.z, Ln.z] = 0 := by decide
    have s2 : slotF ⟨1, 7, 2064, 1⟩ 5 [⟨1, 7, 2048, 3⟩, Ln.z, Ln.z, Ln.z, Ln.z, Ln.z, Ln.z, Ln.z] = 0 := by decide
    have a1 : atF 1 7 [⟨1, 7, 2048, 3⟩, Ln.z, Ln.z, Ln.z, Ln.z, Ln.z, Ln.z, Ln.z] 0 = 0 := by decide
    have a2 : atF 2 7 [⟨1, 7, 2048, 3⟩, Ln.z, Ln.z, Ln.z, Ln.z, Ln.z, Ln.z, Ln.z] 0 = -1 := by decide
    have g1 : (arr Ln.c [⟨1, 7, 2064, 1⟩, Ln.z, Ln.z, Ln.z, Ln.z, Ln.z, Ln.z, Ln.z])[2]? = some (.i .i64 2064) := rfl
    have g2 : sub (arr Ln.c [⟨1, 7, 2064, 1⟩, Ln.z, Ln.z, Ln.z, Ln.z, Ln.z, Ln.z, Ln.z]) 20 4 = [.i .i64 0, .i .i64 0, .i .i64 0, .i .i64 0] := rfl
    have g3 : (arr Ln.c [⟨1, 7, 2064, 1⟩, Ln.z, Ln.z, Ln.z, Ln.z, Ln.z, Ln.z, Ln.z]).length = 32 := rfl
    simp (config := { maxSteps := 10000000 }) only [run_je, resume_leaf, resume_all, resume_bad, resume_res, resume_cond, resume_ob, join_leaf, join_ob1, join_ob2, obS_true, obS_false, zipC_nil, zipC_cons, jv_self, jv_b, jv_i, cond_ff, cond_tt, cond_ft, cond_tf, cond_same, run_zero, run_nil, run_blk, run_lp, run_gi0, run_gi, run_gig, run_q0, run_q, run_qg, run_skip, run_reg, run_drt, run_drq, cut_s, cut_0, run_drm, frames_nil, frames_q, frames_g, run_seq, run_cond, run_block, run_loop, run_exit, run_ret, cont_ok, cont_br, cont_ob, cont_call, cont_app, cont_bad, contG_ok, contG_br, contG_ob, contG_call, contG_app, contG_bad, contQ_ok, contQ_br, contQ_ob, contQ_call, contQ_callv, contQ_bad, contQ2_ok, contQ2_br, contQ2_ob, contQG_some, contQH_ok, contQH_br, contQH_ob, guard_b, guard_t, guardQ_b, guardQ_t, condV_b, exitV_some, callR_t, callR_f, callO_some, callO_none, callL_some, callL_none, into_ok, into_ob, into_br, unlend_ok, unlend_ob, unlend_br, addT, istep, pickR, ev_t, ev_k, tg_some, putD, bin1R, un1R, slcR, bnd, capsOf, fillP, put_nil, put_succ, put_zero, V.plain, V.cells, V.known, C.v, known_nil, known_cons, blk, setL, setH, eqS, eq1, cmpS, cmp1, isNil, popTo, killT, setT, leT, V.below, S.below, R.below, V.val, C.val, S.val, R.val, R.takes, vals, shows, unnamed, V.kill, V.names, C.names, S.names, R.names, List.map_cons, List.map_nil, q_all_cons, q_all_nil, List.set, q_get0, q_getS, q_getN, q_len_cons, q_len_nil, q_cons_app, q_nil_app, List.append_nil, List.append_assoc, List.length_append, app_get0, app_getn, app_set0, app_setn, List.replicate, ↓q_cond_t, ↓q_cond_f, Bool.and_true, Bool.true_and, Bool.and_false, Bool.false_and, Bool.or_true, Bool.true_or, Bool.or_false, Bool.false_or, Bool.not_true, Bool.not_false, if_true, if_false, Bool.false_eq_true, reduceCtorEq, holds_done, holds_obS, holds_all, holds_lp, holds_bad, holds_cond_eq, fin_ret, fin_nrm, finO_some, leave_eq, leaveB_true, rvals, rval_t, rval_c, rvT_s, rvT_agg, rvC, result, C.known, V.noL, C.noL, S.noL, R.noL, Option.map, true_and, and_true, false_and, and_false, ge_iff_le, gt_iff_lt, q_cast, false_imp_iff, true_imp_iff, implies_true, not_true_eq_false, Classical.not_not, q_ite_t, q_ite_f, true_or, or_true, or_self, or_false, false_or, Nat.lt_irrefl, Nat.one_mul, Nat.mul_one, decide_true, decide_false, decide_eq_true_eq, Bool.not_eq_true', Bool.not_eq_false', Bool.and_eq_true, Bool.or_eq_true, Bool.eq_false_iff, beq_iff_eq, bne_iff_ne, Nat.zero_add, q_add_zero, Nat.zero_mul, Nat.le_refl, q_ne, not_false_eq_true, q_toNat, sub_succ, sub_zero, sub_none, List.length_set, Nat.reduceAdd, Nat.reducePow, Int.reducePow, Nat.reduceMul, Nat.reduceSub, Nat.reduceLeDiff, Nat.reduceLT, Nat.reduceEqDiff, Int.reduceNeg, Int.reduceLT, Int.reduceLE, Int.reduceEq, Int.reduceNe, Int.reduceAdd, Int.reduceSub, Int.reduceMul, Int.reduceToNat, beq_self_eq_true, bne_self_eq_false, Int.reduceBEq, Int.reduceBNe, df7, G3, newG, fillG, findG, linesG, isTlb_tlbB, tlbB_cells, dec_arr, f1, f2, f3, s1, s2, a1, a2, nth, ownB, g1, g2, g3]
    exact hS
  · exact hS.elim

end Go.Proofs.Ytkdamkfkgnnbeaa
