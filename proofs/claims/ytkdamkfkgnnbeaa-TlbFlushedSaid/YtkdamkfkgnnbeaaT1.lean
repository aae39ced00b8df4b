/- The program's functions of layer 4: what each answers. -/
import Derived.Test.YtkdamkfkgnnbeaaIr
namespace Go.Proofs.Ytkdamkfkgnnbeaa
open Go.D
set_option linter.all false
set_option maxRecDepth 100000
set_option maxHeartbeats 4000000

structure Ln where
  a : Int
  p : Int
  x : Int
  r : Int
  deriving DecidableEq

def Ln.c (l : Ln) : List S := [.i .i64 l.a, .i .i64 l.p, .i .i64 l.x, .i .i64 l.r]
theorem Ln.c_len (l : Ln) : l.c.length = 4 := rfl
def Ln.z : Ln := ⟨0, 0, 0, 0⟩

/-- Nothing is remembered there. -/
def Ln.nil (l : Ln) : Bool := l.a == 0 && (l.p == 0 && (l.x == 0 && l.r == 0))
def Ln.hit (a p : Int) (l : Ln) : Bool := !l.nil && (l.a == a && l.p == p)

/-- What cells tell. -/
def dec : List S → List Ln
  | .i _ a :: .i _ p :: .i _ x :: .i _ r :: s => ⟨a, p, x, r⟩ :: dec s
  | _ => []
theorem dec_arr : ∀ L : List Ln, dec (arr Ln.c L) = L
  | [] => rfl
  | l :: L => by simp only [arr, Ln.c, List.cons_append, List.nil_append, dec, dec_arr L]

theorem arr_known (L : List Ln) : known (arr Ln.c L) = true := by
  unfold known
  rw [arr_all]
  simp [Ln.c]
theorem arr_below (m : Nat) (L : List Ln) : (arr Ln.c L).all (S.below m) = true := by
  rw [arr_all]
  simp [Ln.c, S.below]
theorem arr_ints (p : S → Bool) (hp : ∀ n, p (.i .i64 n) = true) (L : List Ln) : (arr Ln.c L).all p = true := by
  rw [arr_all]
  simp [Ln.c, hp]

/-- A buffer. -/
def tlbB (L : List Ln) : Blk := ⟨.rw, arr Ln.c L, 32⟩
theorem tlbB_st (L : List Ln) : (tlbB L).st = .rw := rfl
theorem tlbB_cells (L : List Ln) : (tlbB L).cells = arr Ln.c L := rfl
theorem tlbB_room (L : List Ln) : (tlbB L).room = 32 := rfl
/-- A block that is one. -/
def isTlb (B : Blk) : Prop := B = tlbB (dec B.cells) ∧ (dec B.cells).length = 8

theorem isTlb_tlbB (L : List Ln) : isTlb (tlbB L) = (L.length = 8) := by
  simp only [isTlb, tlbB_cells, dec_arr, true_and]

/-- The first entry of a page, counted from i. -/
def atF (a p : Int) : List Ln → Nat → Int
  | [], _ => -1
  | l :: L, i => if l.hit a p then i else atF a p L (i + 1)

def inG : List V → List Blk → Res
  | [.s (.i .i64 n), .s (.i .i64 a), .s (.i .i64 b)], h => .ok (.s (.b (decide (a ≤ n) && decide (n ≤ b)))) [] h
  | _, _ => .bad

theorem in_snd : Snd Try.prog 18 (FSpec.of inG) := snd_run (noT_snd _) mixed Try.func18 dc18 100 fun args h K _ hS => by
  unfold inG at hS
  split at hS
  · rename_i n a b
    rw [spec_ok] at hS
    simp (config := { maxSteps := 10000000 }) only [run_je, resume_leaf, resume_all, resume_bad, resume_res, resume_cond, resume_ob, join_leaf, join_ob1, join_ob2, obS_true, obS_false, zipC_nil, zipC_cons, jv_self, jv_b, jv_i, cond_ff, cond_tt, cond_ft, cond_tf, cond_same, run_zero, run_nil, run_blk, run_lp, run_gi0, run_gi, run_gig, run_q0, run_q, run_qg, run_skip, run_reg, run_drt, run_drq, cut_s, cut_0, run_drm, frames_nil, frames_q, frames_g, run_seq, run_cond, run_block, run_loop, run_exit, run_ret, cont_ok, cont_br, cont_ob, cont_call, cont_app, cont_bad, contG_ok, contG_br, contG_ob, contG_call, contG_app, contG_bad, contQ_ok, contQ_br, contQ_ob, contQ_call, contQ_callv, contQ_bad, contQ2_ok, contQ2_br, contQ2_ob, contQG_some, contQH_ok, contQH_br, contQH_ob, guard_b, guard_t, guardQ_b, guardQ_t, condV_b, exitV_some, callR_t, callR_f, callO_some, callO_none, callL_some, callL_none, into_ok, into_ob, into_br, unlend_ok, unlend_ob, unlend_br, addT, istep, pickR, ev_t, ev_k, tg_some, putD, bin1R, un1R, slcR, bnd, capsOf, fillP, put_nil, put_succ, put_zero, V.plain, V.cells, V.known, C.v, known_nil, known_cons, blk, setL, setH, eqS, eq1, cmpS, cmp1, isNil, popTo, killT, setT, leT, V.below, S.below, R.below, V.val, C.val, S.val, R.val, R.takes, vals, shows, unnamed, V.kill, V.names, C.names, S.names, R.names, List.map_cons, List.map_nil, q_all_cons, q_all_nil, List.set, q_get0, q_getS, q_getN, q_len_cons, q_len_nil, q_cons_app, q_nil_app, List.append_nil, List.append_assoc, List.length_append, app_get0, app_getn, app_set0, app_setn, List.replicate, ↓q_cond_t, ↓q_cond_f, Bool.and_true, Bool.true_and, Bool.and_false, Bool.false_and, Bool.or_true, Bool.true_or, Bool.or_false, Bool.false_or, Bool.not_true, Bool.not_false, if_true, if_false, Bool.false_eq_true, reduceCtorEq, holds_done, holds_obS, holds_all, holds_lp, holds_bad, holds_cond_eq, fin_ret, fin_nrm, finO_some, leave_eq, leaveB_true, rvals, rval_t, rval_c, rvT_s, rvT_agg, rvC, result, C.known, V.noL, C.noL, S.noL, R.noL, Option.map, true_and, and_true, false_and, and_false, ge_iff_le, gt_iff_lt, q_cast, false_imp_iff, true_imp_iff, implies_true, not_true_eq_false, Classical.not_not, q_ite_t, q_ite_f, true_or, or_true, or_self, or_false, false_or, Nat.lt_irrefl, Nat.one_mul, Nat.mul_one, decide_true, decide_false, decide_eq_true_eq, Bool.not_eq_true', Bool.not_eq_false', Bool.and_eq_true, Bool.or_eq_true, Bool.eq_false_iff, beq_iff_eq, bne_iff_ne, Nat.zero_add, q_add_zero, Nat.zero_mul, Nat.le_refl, q_ne, not_false_eq_true, q_toNat, sub_succ, sub_zero, sub_none, List.length_set, Nat.reduceAdd, Nat.reducePow, Int.reducePow, Nat.reduceMul, Nat.reduceSub, Nat.reduceLeDiff, Nat.reduceLT, Nat.reduceEqDiff, Int.reduceNeg, Int.reduceLT, Int.reduceLE, Int.reduceEq, Int.reduceNe, Int.reduceAdd, Int.reduceSub, Int.reduceMul, Int.reduceToNat, beq_self_eq_true, bne_self_eq_false, Int.reduceBEq, Int.reduceBNe, df18]
    exact hS
  · exact hS.elim

def atG : List V → List Blk → Res
  | [.s (.p (.g k) 0), .s (.i .i64 a), .s (.i .i64 p)], h => match h[k]? with
    | some B => .ob (isTlb B) (.ok (.s (.i .i64 (atF a p (dec B.cells) 0))) [] h)
    | none => .bad
  | _, _ => .bad

theorem at_snd : Snd Try.prog 19 (FSpec.of atG) := snd_run (noT_snd _) mixed Try.func19 dc19 100 fun args h K _ hS => by
  unfold atG at hS
  split at hS
  · rename_i k a p
    split at hS
    · rename_i B hk
      obtain ⟨⟨hB, h8⟩, hS⟩ := hS
      generalize dec B.cells = L at *
      subst hB
      rw [spec_ok] at hS
      have hsub : sub (arr Ln.c L) 0 32 = arr Ln.c L := by
        have := arr_subs Ln.c_len L 0 8
        simp only [Nat.zero_mul] at this
        rw [this]; simp [← h8]
      have hlen : (arr Ln.c L).length = 32 := by rw [arr_length Ln.c_len, h8]
      simp (config := { maxSteps := 10000000 }) only [run_je, resume_leaf, resume_all, resume_bad, resume_res, resume_cond, resume_ob, join_leaf, join_ob1, join_ob2, obS_true, obS_false, zipC_nil, zipC_cons, jv_self, jv_b, jv_i, cond_ff, cond_tt, cond_ft, cond_tf, cond_same, run_zero, run_nil, run_blk, run_lp, run_gi0, run_gi, run_gig, run_q0, run_q, run_qg, run_skip, run_reg, run_drt, run_drq, cut_s, cut_0, run_drm, frames_nil, frames_q, frames_g, run_seq, run_cond, run_block, run_loop, run_exit, run_ret, cont_ok, cont_br, cont_ob, cont_call, cont_app, cont_bad, contG_ok, contG_br, contG_ob, contG_call, contG_app, contG_bad, contQ_ok, contQ_br, contQ_ob, contQ_call, contQ_callv, contQ_bad, contQ2_ok, contQ2_br, contQ2_ob, contQG_some, contQH_ok, contQH_br, contQH_ob, guard_b, guard_t, guardQ_b, guardQ_t, condV_b, exitV_some, callR_t, callR_f, callO_some, callO_none, callL_some, callL_none, into_ok, into_ob, into_br, unlend_ok, unlend_ob, unlend_br, addT, istep, pickR, ev_t, ev_k, tg_some, putD, bin1R, un1R, slcR, bnd, capsOf, fillP, put_nil, put_succ, put_zero, V.plain, V.cells, V.known, C.v, known_nil, known_cons, blk, setL, setH, eqS, eq1, cmpS, cmp1, isNil, popTo, killT, setT, leT, V.below, S.below, R.below, V.val, C.val, S.val, R.val, R.takes, vals, shows, unnamed, V.kill, V.names, C.names, S.names, R.names, List.map_cons, List.map_nil, q_all_cons, q_all_nil, List.set, q_get0, q_getS, q_getN, q_len_cons, q_len_nil, q_cons_app, q_nil_app, List.append_nil, List.append_assoc, List.length_append, app_get0, app_getn, app_set0, app_setn, List.replicate, ↓q_cond_t, ↓q_cond_f, Bool.and_true, Bool.true_and, Bool.and_false, Bool.false_and, Bool.or_true, Bool.true_or, Bool.or_false, Bool.false_or, Bool.not_true, Bool.not_false, if_true, if_false, Bool.false_eq_true, reduceCtorEq, holds_done, holds_obS, holds_all, holds_lp, holds_bad, holds_cond_eq, fin_ret, fin_nrm, finO_some, leave_eq, leaveB_true, rvals, rval_t, rval_c, rvT_s, rvT_agg, rvC, result, C.known, V.noL, C.noL, S.noL, R.noL, Option.map, true_and, and_true, false_and, and_false, ge_iff_le, gt_iff_lt, q_cast, false_imp_iff, true_imp_iff, implies_true, not_true_eq_false, Classical.not_not, q_ite_t, q_ite_f, true_or, or_true, or_self, or_false, false_or, Nat.lt_irrefl, Nat.one_mul, Nat.mul_one, decide_true, decide_false, decide_eq_true_eq, Bool.not_eq_true', Bool.not_eq_false', Bool.and_eq_true, Bool.or_eq_true, Bool.eq_false_iff, beq_iff_eq, bne_iff_ne, Nat.zero_add, q_add_zero, Nat.zero_mul, Nat.le_refl, q_ne, not_false_eq_true, q_toNat, sub_succ, sub_zero, sub_none, List.length_set, Nat.reduceAdd, Nat.reducePow, Int.reducePow, Nat.reduceMul, Nat.reduceSub, Nat.reduceLeDiff, Nat.reduceLT, Nat.reduceEqDiff, Int.reduceNeg, Int.reduceLT, Int.reduceLE, Int.reduceEq, Int.reduceNe, Int.reduceAdd, Int.reduceSub, Int.reduceMul, Int.reduceToNat, beq_self_eq_true, bne_self_eq_false, Int.reduceBEq, Int.reduceBNe, df19, hk, hsub, hlen, arr_known, tlbB]
      refine loop_rule (α := Nat) [6, 7, 8, 14, 15, 16, 17, 18, 19, 20, 21, 22, 23, 24, 25, 26, 27, 28, 29, 30, 31, 32, 33] (fun i => [(13, .s (.i .i64 i))]) (fun _ => []) (fun _ => h)
        (fun i => i ≤ 8 ∧ atF a p L 0 = atF a p (L.drop i) i) (fun i => 8 - i) 0 ⟨by omega, rfl⟩ ?_ ?_
      · refine Wk.less ?_
        simp (config := { maxSteps := 10000000 }) only [run_je, resume_leaf, resume_all, resume_bad, resume_res, resume_cond, resume_ob, join_leaf, join_ob1, join_ob2, obS_true, obS_false, zipC_nil, zipC_cons, jv_self, jv_b, jv_i, cond_ff, cond_tt, cond_ft, cond_tf, cond_same, run_zero, run_nil, run_blk, run_lp, run_gi0, run_gi, run_gig, run_q0, run_q, run_qg, run_skip, run_reg, run_drt, run_drq, cut_s, cut_0, run_drm, frames_nil, frames_q, frames_g, run_seq, run_cond, run_block, run_loop, run_exit, run_ret, cont_ok, cont_br, cont_ob, cont_call, cont_app, cont_bad, contG_ok, contG_br, contG_ob, contG_call, contG_app, contG_bad, contQ_ok, contQ_br, contQ_ob, contQ_call, contQ_callv, contQ_bad, contQ2_ok, contQ2_br, contQ2_ob, contQG_some, contQH_ok, contQH_br, contQH_ob, guard_b, guard_t, guardQ_b, guardQ_t, condV_b, exitV_some, callR_t, callR_f, callO_some, callO_none, callL_some, callL_none, into_ok, into_ob, into_br, unlend_ok, unlend_ob, unlend_br, addT, istep, pickR, ev_t, ev_k, tg_some, putD, bin1R, un1R, slcR, bnd, capsOf, fillP, put_nil, put_succ, put_zero, V.plain, V.cells, V.known, C.v, known_nil, known_cons, blk, setL, setH, eqS, eq1, cmpS, cmp1, isNil, popTo, killT, setT, leT, V.below, S.below, R.below, V.val, C.val, S.val, R.val, R.takes, vals, shows, unnamed, V.kill, V.names, C.names, S.names, R.names, List.map_cons, List.map_nil, q_all_cons, q_all_nil, List.set, q_get0, q_getS, q_getN, q_len_cons, q_len_nil, q_cons_app, q_nil_app, List.append_nil, List.append_assoc, List.length_append, app_get0, app_getn, app_set0, app_setn, List.replicate, ↓q_cond_t, ↓q_cond_f, Bool.and_true, Bool.true_and, Bool.and_false, Bool.false_and, Bool.or_true, Bool.true_or, Bool.or_false, Bool.false_or, Bool.not_true, Bool.not_false, if_true, if_false, Bool.false_eq_true, reduceCtorEq, holds_done, holds_obS, holds_all, holds_lp, holds_bad, holds_cond_eq, fin_ret, fin_nrm, finO_some, leave_eq, leaveB_true, rvals, rval_t, rval_c, rvT_s, rvT_agg, rvC, result, C.known, V.noL, C.noL, S.noL, R.noL, Option.map, true_and, and_true, false_and, and_false, ge_iff_le, gt_iff_lt, q_cast, false_imp_iff, true_imp_iff, implies_true, not_true_eq_false, Classical.not_not, q_ite_t, q_ite_f, true_or, or_true, or_self, or_false, false_or, Nat.lt_irrefl, Nat.one_mul, Nat.mul_one, decide_true, decide_false, decide_eq_true_eq, Bool.not_eq_true', Bool.not_eq_false', Bool.and_eq_true, Bool.or_eq_true, Bool.eq_false_iff, beq_iff_eq, bne_iff_ne, Nat.zero_add, q_add_zero, Nat.zero_mul, Nat.le_refl, q_ne, not_false_eq_true, q_toNat, sub_succ, sub_zero, sub_none, List.length_set, Nat.reduceAdd, Nat.reducePow, Int.reducePow, Nat.reduceMul, Nat.reduceSub, Nat.reduceLeDiff, Nat.reduceLT, Nat.reduceEqDiff, Int.reduceNeg, Int.reduceLT, Int.reduceLE, Int.reduceEq, Int.reduceNe, Int.reduceAdd, Int.reduceSub, Int.reduceMul, Int.reduceToNat, beq_self_eq_true, bne_self_eq_false, Int.reduceBEq, Int.reduceBNe, Int.natCast_zero, q_cast]
      · rintro X i ⟨hi, hat⟩ IH
        rcases Nat.lt_or_ge i 8 with hi8 | hi8
        · obtain ⟨l, hl, hl2⟩ : ∃ l : Ln, sub (arr Ln.c L) (i * 4) 4 = [.i .i64 l.a, .i .i64 l.p, .i .i64 l.x, .i .i64 l.r] ∧ L.drop i = l :: L.drop (i + 1) :=
            ⟨L[i]'(by omega), arr_sub Ln.c_len (by omega), List.drop_eq_getElem_cons (by omega)⟩
          have hi8' : (i : Int) < 8 := by omega
          have hle : i * 4 + 4 ≤ 32 := by omega
          have hi0 : (0 : Int) ≤ i := by omega
          have hw : IntKind.i64.wrap ((i : Int) + 1) = ((i + 1 : Nat) : Int) := by rw [wrap64] <;> omega
          refine run_sound (Tab.ok_Γ _) 100 _ _ _ _ ?_
          simp (config := { maxSteps := 10000000 }) only [run_je, resume_leaf, resume_all, resume_bad, resume_res, resume_cond, resume_ob, join_leaf, join_ob1, join_ob2, obS_true, obS_false, zipC_nil, zipC_cons, jv_self, jv_b, jv_i, cond_ff, cond_tt, cond_ft, cond_tf, cond_same, run_zero, run_nil, run_blk, run_lp, run_gi0, run_gi, run_gig, run_q0, run_q, run_qg, run_skip, run_reg, run_drt, run_drq, cut_s, cut_0, run_drm, frames_nil, frames_q, frames_g, run_seq, run_cond, run_block, run_loop, run_exit, run_ret, cont_ok, cont_br, cont_ob, cont_call, cont_app, cont_bad, contG_ok, contG_br, contG_ob, contG_call, contG_app, contG_bad, contQ_ok, contQ_br, contQ_ob, contQ_call, contQ_callv, contQ_bad, contQ2_ok, contQ2_br, contQ2_ob, contQG_some, contQH_ok, contQH_br, contQH_ob, guard_b, guard_t, guardQ_b, guardQ_t, condV_b, exitV_some, callR_t, callR_f, callO_some, callO_none, callL_some, callL_none, into_ok, into_ob, into_br, unlend_ok, unlend_ob, unlend_br, addT, istep, pickR, ev_t, ev_k, tg_some, putD, bin1R, un1R, slcR, bnd, capsOf, fillP, put_nil, put_succ, put_zero, V.plain, V.cells, V.known, C.v, known_nil, known_cons, blk, setL, setH, eqS, eq1, cmpS, cmp1, isNil, popTo, killT, setT, leT, V.below, S.below, R.below, V.val, C.val, S.val, R.val, R.takes, vals, shows, unnamed, V.kill, V.names, C.names, S.names, R.names, List.map_cons, List.map_nil, q_all_cons, q_all_nil, List.set, q_get0, q_getS, q_getN, q_len_cons, q_len_nil, q_cons_app, q_nil_app, List.append_nil, List.append_assoc, List.length_append, app_get0, app_getn, app_set0, app_setn, List.replicate, ↓q_cond_t, ↓q_cond_f, Bool.and_true, Bool.true_and, Bool.and_false, Bool.false_and, Bool.or_true, Bool.true_or, Bool.or_false, Bool.false_or, Bool.not_true, Bool.not_false, if_true, if_false, Bool.false_eq_true, reduceCtorEq, holds_done, holds_obS, holds_all, holds_lp, holds_bad, holds_cond_eq, fin_ret, fin_nrm, finO_some, leave_eq, leaveB_true, rvals, rval_t, rval_c, rvT_s, rvT_agg, rvC, result, C.known, V.noL, C.noL, S.noL, R.noL, Option.map, true_and, and_true, false_and, and_false, ge_iff_le, gt_iff_lt, q_cast, false_imp_iff, true_imp_iff, implies_true, not_true_eq_false, Classical.not_not, q_ite_t, q_ite_f, true_or, or_true, or_self, or_false, false_or, Nat.lt_irrefl, Nat.one_mul, Nat.mul_one, decide_true, decide_false, decide_eq_true_eq, Bool.not_eq_true', Bool.not_eq_false', Bool.and_eq_true, Bool.or_eq_true, Bool.eq_false_iff, beq_iff_eq, bne_iff_ne, Nat.zero_add, q_add_zero, Nat.zero_mul, Nat.le_refl, q_ne, not_false_eq_true, q_toNat, sub_succ, sub_zero, sub_none, List.length_set, Nat.reduceAdd, Nat.reducePow, Int.reducePow, Nat.reduceMul, Nat.reduceSub, Nat.reduceLeDiff, Nat.reduceLT, Nat.reduceEqDiff, Int.reduceNeg, Int.reduceLT, Int.reduceLE, Int.reduceEq, Int.reduceNe, Int.reduceAdd, Int.reduceSub, Int.reduceMul, Int.reduceToNat, beq_self_eq_true, bne_self_eq_false, Int.reduceBEq, Int.reduceBNe, hl, hi8', hlen, hle, hi0, hw]
          rw [hl2, atF] at hat
          have hmiss : l.hit a p = false → atF a p L 0 = atF a p (L.drop (i + 1)) (i + 1) := fun e => by rw [hat, e]; rfl
          refine ⟨fun h1 => ?_, fun h1 => ?_⟩
          · rw [hat] at hS
            have : l.hit a p = true := by
              simp only [Ln.hit, Ln.nil, Bool.and_eq_true, Bool.not_eq_true', beq_iff_eq]
              simpa using h1
            rw [this] at hS
            exact hS
          · refine IH (i + 1) _ (by omega) ⟨by omega, hmiss (by rw [Bool.eq_false_iff]; intro h2; refine h1 ?_; simp only [Ln.hit, Ln.nil, Bool.and_eq_true, Bool.not_eq_true', beq_iff_eq] at h2; simpa using h2)⟩ (Wk.cutJ [_] rfl ?_ ?_ rfl)
            · simp (config := { maxSteps := 10000000 }) only [run_je, resume_leaf, resume_all, resume_bad, resume_res, resume_cond, resume_ob, join_leaf, join_ob1, join_ob2, obS_true, obS_false, zipC_nil, zipC_cons, jv_self, jv_b, jv_i, cond_ff, cond_tt, cond_ft, cond_tf, cond_same, run_zero, run_nil, run_blk, run_lp, run_gi0, run_gi, run_gig, run_q0, run_q, run_qg, run_skip, run_reg, run_drt, run_drq, cut_s, cut_0, run_drm, frames_nil, frames_q, frames_g, run_seq, run_cond, run_block, run_loop, run_exit, run_ret, cont_ok, cont_br, cont_ob, cont_call, cont_app, cont_bad, contG_ok, contG_br, contG_ob, contG_call, contG_app, contG_bad, contQ_ok, contQ_br, contQ_ob, contQ_call, contQ_callv, contQ_bad, contQ2_ok, contQ2_br, contQ2_ob, contQG_some, contQH_ok, contQH_br, contQH_ob, guard_b, guard_t, guardQ_b, guardQ_t, condV_b, exitV_some, callR_t, callR_f, callO_some, callO_none, callL_some, callL_none, into_ok, into_ob, into_br, unlend_ok, unlend_ob, unlend_br, addT, istep, pickR, ev_t, ev_k, tg_some, putD, bin1R, un1R, slcR, bnd, capsOf, fillP, put_nil, put_succ, put_zero, V.plain, V.cells, V.known, C.v, known_nil, known_cons, blk, setL, setH, eqS, eq1, cmpS, cmp1, isNil, popTo, killT, setT, leT, V.below, S.below, R.below, V.val, C.val, S.val, R.val, R.takes, vals, shows, unnamed, V.kill, V.names, C.names, S.names, R.names, List.map_cons, List.map_nil, q_all_cons, q_all_nil, List.set, q_get0, q_getS, q_getN, q_len_cons, q_len_nil, q_cons_app, q_nil_app, List.append_nil, List.append_assoc, List.length_append, app_get0, app_getn, app_set0, app_setn, List.replicate, ↓q_cond_t, ↓q_cond_f, Bool.and_true, Bool.true_and, Bool.and_false, Bool.false_and, Bool.or_true, Bool.true_or, Bool.or_false, Bool.false_or, Bool.not_true, Bool.not_false, if_true, if_false, Bool.false_eq_true, reduceCtorEq, holds_done, holds_obS, holds_all, holds_lp, holds_bad, holds_cond_eq, fin_ret, fin_nrm, finO_some, leave_eq, leaveB_true, rvals, rval_t, rval_c, rvT_s, rvT_agg, rvC, result, C.known, V.noL, C.noL, S.noL, R.noL, Option.map, true_and, and_true, false_and, and_false, ge_iff_le, gt_iff_lt, q_cast, false_imp_iff, true_imp_iff, implies_true, not_true_eq_false, Classical.not_not, q_ite_t, q_ite_f, true_or, or_true, or_self, or_false, false_or, Nat.lt_irrefl, Nat.one_mul, Nat.mul_one, decide_true, decide_false, decide_eq_true_eq, Bool.not_eq_true', Bool.not_eq_false', Bool.and_eq_true, Bool.or_eq_true, Bool.eq_false_iff, beq_iff_eq, bne_iff_ne, Nat.zero_add, q_add_zero, Nat.zero_mul, Nat.le_refl, q_ne, not_false_eq_true, q_toNat, sub_succ, sub_zero, sub_none, List.length_set, Nat.reduceAdd, Nat.reducePow, Int.reducePow, Nat.reduceMul, Nat.reduceSub, Nat.reduceLeDiff, Nat.reduceLT, Nat.reduceEqDiff, Int.reduceNeg, Int.reduceLT, Int.reduceLE, Int.reduceEq, Int.reduceNe, Int.reduceAdd, Int.reduceSub, Int.reduceMul, Int.reduceToNat, beq_self_eq_true, bne_self_eq_false, Int.reduceBEq, Int.reduceBNe]
            · simp (config := { maxSteps := 10000000 }) only [run_je, resume_leaf, resume_all, resume_bad, resume_res, resume_cond, resume_ob, join_leaf, join_ob1, join_ob2, obS_true, obS_false, zipC_nil, zipC_cons, jv_self, jv_b, jv_i, cond_ff, cond_tt, cond_ft, cond_tf, cond_same, run_zero, run_nil, run_blk, run_lp, run_gi0, run_gi, run_gig, run_q0, run_q, run_qg, run_skip, run_reg, run_drt, run_drq, cut_s, cut_0, run_drm, frames_nil, frames_q, frames_g, run_seq, run_cond, run_block, run_loop, run_exit, run_ret, cont_ok, cont_br, cont_ob, cont_call, cont_app, cont_bad, contG_ok, contG_br, contG_ob, contG_call, contG_app, contG_bad, contQ_ok, contQ_br, contQ_ob, contQ_call, contQ_callv, contQ_bad, contQ2_ok, contQ2_br, contQ2_ob, contQG_some, contQH_ok, contQH_br, contQH_ob, guard_b, guard_t, guardQ_b, guardQ_t, condV_b, exitV_some, callR_t, callR_f, callO_some, callO_none, callL_some, callL_none, into_ok, into_ob, into_br, unlend_ok, unlend_ob, unlend_br, addT, istep, pickR, ev_t, ev_k, tg_some, putD, bin1R, un1R, slcR, bnd, capsOf, fillP, put_nil, put_succ, put_zero, V.plain, V.cells, V.known, C.v, known_nil, known_cons, blk, setL, setH, eqS, eq1, cmpS, cmp1, isNil, popTo, killT, setT, leT, V.below, S.below, R.below, V.val, C.val, S.val, R.val, R.takes, vals, shows, unnamed, V.kill, V.names, C.names, S.names, R.names, List.map_cons, List.map_nil, q_all_cons, q_all_nil, List.set, q_get0, q_getS, q_getN, q_len_cons, q_len_nil, q_cons_app, q_nil_app, List.append_nil, List.append_assoc, List.length_append, app_get0, app_getn, app_set0, app_setn, List.replicate, ↓q_cond_t, ↓q_cond_f, Bool.and_true, Bool.true_and, Bool.and_false, Bool.false_and, Bool.or_true, Bool.true_or, Bool.or_false, Bool.false_or, Bool.not_true, Bool.not_false, if_true, if_false, Bool.false_eq_true, reduceCtorEq, holds_done, holds_obS, holds_all, holds_lp, holds_bad, holds_cond_eq, fin_ret, fin_nrm, finO_some, leave_eq, leaveB_true, rvals, rval_t, rval_c, rvT_s, rvT_agg, rvC, result, C.known, V.noL, C.noL, S.noL, R.noL, Option.map, true_and, and_true, false_and, and_false, ge_iff_le, gt_iff_lt, q_cast, false_imp_iff, true_imp_iff, implies_true, not_true_eq_false, Classical.not_not, q_ite_t, q_ite_f, true_or, or_true, or_self, or_false, false_or, Nat.lt_irrefl, Nat.one_mul, Nat.mul_one, decide_true, decide_false, decide_eq_true_eq, Bool.not_eq_true', Bool.not_eq_false', Bool.and_eq_true, Bool.or_eq_true, Bool.eq_false_iff, beq_iff_eq, bne_iff_ne, Nat.zero_add, q_add_zero, Nat.zero_mul, Nat.le_refl, q_ne, not_false_eq_true, q_toNat, sub_succ, sub_zero, sub_none, List.length_set, Nat.reduceAdd, Nat.reducePow, Int.reducePow, Nat.reduceMul, Nat.reduceSub, Nat.reduceLeDiff, Nat.reduceLT, Nat.reduceEqDiff, Int.reduceNeg, Int.reduceLT, Int.reduceLE, Int.reduceEq, Int.reduceNe, Int.reduceAdd, Int.reduceSub, Int.reduceMul, Int.reduceToNat, beq_self_eq_true, bne_self_eq_false, Int.reduceBEq, Int.reduceBNe, arr_below]
        · have : i = 8 := by omega
          subst this
          refine run_sound (Tab.ok_Γ _) 100 _ _ _ _ ?_
          simp (config := { maxSteps := 10000000 }) only [run_je, resume_leaf, resume_all, resume_bad, resume_res, resume_cond, resume_ob, join_leaf, join_ob1, join_ob2, obS_true, obS_false, zipC_nil, zipC_cons, jv_self, jv_b, jv_i, cond_ff, cond_tt, cond_ft, cond_tf, cond_same, run_zero, run_nil, run_blk, run_lp, run_gi0, run_gi, run_gig, run_q0, run_q, run_qg, run_skip, run_reg, run_drt, run_drq, cut_s, cut_0, run_drm, frames_nil, frames_q, frames_g, run_seq, run_cond, run_block, run_loop, run_exit, run_ret, cont_ok, cont_br, cont_ob, cont_call, cont_app, cont_bad, contG_ok, contG_br, contG_ob, contG_call, contG_app, contG_bad, contQ_ok, contQ_br, contQ_ob, contQ_call, contQ_callv, contQ_bad, contQ2_ok, contQ2_br, contQ2_ob, contQG_some, contQH_ok, contQH_br, contQH_ob, guard_b, guard_t, guardQ_b, guardQ_t, condV_b, exitV_some, callR_t, callR_f, callO_some, callO_none, callL_some, callL_none, into_ok, into_ob, into_br, unlend_ok, unlend_ob, unlend_br, addT, istep, pickR, ev_t, ev_k, tg_some, putD, bin1R, un1R, slcR, bnd, capsOf, fillP, put_nil, put_succ, put_zero, V.plain, V.cells, V.known, C.v, known_nil, known_cons, blk, setL, setH, eqS, eq1, cmpS, cmp1, isNil, popTo, killT, setT, leT, V.below, S.below, R.below, V.val, C.val, S.val, R.val, R.takes, vals, shows, unnamed, V.kill, V.names, C.names, S.names, R.names, List.map_cons, List.map_nil, q_all_cons, q_all_nil, List.set, q_get0, q_getS, q_getN, q_len_cons, q_len_nil, q_cons_app, q_nil_app, List.append_nil, List.append_assoc, List.length_append, app_get0, app_getn, app_set0, app_setn, List.replicate, ↓q_cond_t, ↓q_cond_f, Bool.and_true, Bool.true_and, Bool.and_false, Bool.false_and, Bool.or_true, Bool.true_or, Bool.or_false, Bool.false_or, Bool.not_true, Bool.not_false, if_true, if_false, Bool.false_eq_true, reduceCtorEq, holds_done, holds_obS, holds_all, holds_lp, holds_bad, holds_cond_eq, fin_ret, fin_nrm, finO_some, leave_eq, leaveB_true, rvals, rval_t, rval_c, rvT_s, rvT_agg, rvC, result, C.known, V.noL, C.noL, S.noL, R.noL, Option.map, true_and, and_true, false_and, and_false, ge_iff_le, gt_iff_lt, q_cast, false_imp_iff, true_imp_iff, implies_true, not_true_eq_false, Classical.not_not, q_ite_t, q_ite_f, true_or, or_true, or_self, or_false, false_or, Nat.lt_irrefl, Nat.one_mul, Nat.mul_one, decide_true, decide_false, decide_eq_true_eq, Bool.not_eq_true', Bool.not_eq_false', Bool.and_eq_true, Bool.or_eq_true, Bool.eq_false_iff, beq_iff_eq, bne_iff_ne, Nat.zero_add, q_add_zero, Nat.zero_mul, Nat.le_refl, q_ne, not_false_eq_true, q_toNat, sub_succ, sub_zero, sub_none, List.length_set, Nat.reduceAdd, Nat.reducePow, Int.reducePow, Nat.reduceMul, Nat.reduceSub, Nat.reduceLeDiff, Nat.reduceLT, Nat.reduceEqDiff, Int.reduceNeg, Int.reduceLT, Int.reduceLE, Int.reduceEq, Int.reduceNe, Int.reduceAdd, Int.reduceSub, Int.reduceMul, Int.reduceToNat, beq_self_eq_true, bne_self_eq_false, Int.reduceBEq, Int.reduceBNe, Int.lt_irrefl, q_cast]
          rw [hat] at hS
          simp only [← h8, List.drop_length, atF] at hS
          exact hS
    · exact hS.elim
  · exact hS.elim

/-- The entry of a page, if there is one. -/
theorem atF_cases (a p : Int) : ∀ (L : List Ln) (i : Nat), atF a p L i = -1 ∨ ∃ j, j < L.length ∧ atF a p L i = ((i + j : Nat) : Int)
  | [], i => .inl rfl
  | l :: L, i => by
    unfold atF
    cases l.hit a p with
    | true => exact .inr ⟨0, by simp, by simp⟩
    | false =>
      rcases atF_cases a p L (i + 1) with e | ⟨j, hj, e⟩
      · left; simpa using e
      · right; refine ⟨j + 1, by simp only [List.length_cons]; omega, ?_⟩
        simp only [Bool.false_eq_true, if_false, e]; omega

def G1 : Tab := addT 18 inG noT
theorem G1_snd : G1.Snd Try.prog := addT_snd ok18 in_snd (noT_snd _)
def G2 : Tab := addT 19 atG G1
theorem G2_snd : G2.Snd Try.prog := addT_snd ok19 at_snd G1_snd

/-! ### New, Find, Fill, Evict, Lines -/
def newG : List V → List Blk → Res
  | [], h => .ok (.s (.p (.g h.length) 0)) [] (h ++ [tlbB (List.replicate 8 Ln.z)])
  | _, _ => .bad

theorem new_snd : Snd Try.prog 8 (FSpec.of newG) := snd_run (noT_snd _) mixed Try.func8 dc8 100 fun args h K _ hS => by
  unfold newG at hS
  split at hS
  · rw [spec_ok] at hS
    simp (config := { maxSteps := 10000000 }) only [run_je, resume_leaf, resume_all, resume_bad, resume_res, resume_cond, resume_ob, join_leaf, join_ob1, join_ob2, obS_true, obS_false, zipC_nil, zipC_cons, jv_self, jv_b, jv_i, cond_ff, cond_tt, cond_ft, cond_tf, cond_same, run_zero, run_nil, run_blk, run_lp, run_gi0, run_gi, run_gig, run_q0, run_q, run_qg, run_skip, run_reg, run_drt, run_drq, cut_s, cut_0, run_drm, frames_nil, frames_q, frames_g, run_seq, run_cond, run_block, run_loop, run_exit, run_ret, cont_ok, cont_br, cont_ob, cont_call, cont_app, cont_bad, contG_ok, contG_br, contG_ob, contG_call, contG_app, contG_bad, contQ_ok, contQ_br, contQ_ob, contQ_call, contQ_callv, contQ_bad, contQ2_ok, contQ2_br, contQ2_ob, contQG_some, contQH_ok, contQH_br, contQH_ob, guard_b, guard_t, guardQ_b, guardQ_t, condV_b, exitV_some, callR_t, callR_f, callO_some, callO_none, callL_some, callL_none, into_ok, into_ob, into_br, unlend_ok, unlend_ob, unlend_br, addT, istep, pickR, ev_t, ev_k, tg_some, putD, bin1R, un1R, slcR, bnd, capsOf, fillP, put_nil, put_succ, put_zero, V.plain, V.cells, V.known, C.v, known_nil, known_cons, blk, setL, setH, eqS, eq1, cmpS, cmp1, isNil, popTo, killT, setT, leT, V.below, S.below, R.below, V.val, C.val, S.val, R.val, R.takes, vals, shows, unnamed, V.kill, V.names, C.names, S.names, R.names, List.map_cons, List.map_nil, q_all_cons, q_all_nil, List.set, q_get0, q_getS, q_getN, q_len_cons, q_len_nil, q_cons_app, q_nil_app, List.append_nil, List.append_assoc, List.length_append, app_get0, app_getn, app_set0, app_setn, List.replicate, ↓q_cond_t, ↓q_cond_f, Bool.and_true, Bool.true_and, Bool.and_false, Bool.false_and, Bool.or_true, Bool.true_or, Bool.or_false, Bool.false_or, Bool.not_true, Bool.not_false, if_true, if_false, Bool.false_eq_true, reduceCtorEq, holds_done, holds_obS, holds_all, holds_lp, holds_bad, holds_cond_eq, fin_ret, fin_nrm, finO_some, leave_eq, leaveB_true, rvals, rval_t, rval_c, rvT_s, rvT_agg, rvC, result, C.known, V.noL, C.noL, S.noL, R.noL, Option.map, true_and, and_true, false_and, and_false, ge_iff_le, gt_iff_lt, q_cast, false_imp_iff, true_imp_iff, implies_true, not_true_eq_false, Classical.not_not, q_ite_t, q_ite_f, true_or, or_true, or_self, or_false, false_or, Nat.lt_irrefl, Nat.one_mul, Nat.mul_one, decide_true, decide_false, decide_eq_true_eq, Bool.not_eq_true', Bool.not_eq_false', Bool.and_eq_true, Bool.or_eq_true, Bool.eq_false_iff, beq_iff_eq, bne_iff_ne, Nat.zero_add, q_add_zero, Nat.zero_mul, Nat.le_refl, q_ne, not_false_eq_true, q_toNat, sub_succ, sub_zero, sub_none, List.length_set, Nat.reduceAdd, Nat.reducePow, Int.reducePow, Nat.reduceMul, Nat.reduceSub, Nat.reduceLeDiff, Nat.reduceLT, Nat.reduceEqDiff, Int.reduceNeg, Int.reduceLT, Int.reduceLE, Int.reduceEq, Int.reduceNe, Int.reduceAdd, Int.reduceSub, Int.reduceMul, Int.reduceToNat, beq_self_eq_true, bne_self_eq_false, Int.reduceBEq, Int.reduceBNe, df8]
    refine ⟨[0], by simp, rfl, ?_⟩
    simp only [getAll, List.getElem?_cons_zero]
    refine ⟨?_, ?_⟩
    · simp [S.kept]
    · exact hS
  · exact hS.elim

def findG : List V → List Blk → Res
  | [.s (.p (.g k) 0), .s (.i .i64 a), .s (.i .i64 p)], h => match h[k]? with
    | some B => .ob (isTlb B) (.br (decide (atF a p (dec B.cells) 0 < 0)) (.ok (.tup [.s (.i .i64 0), .s (.i .i64 0), .s (.b false)]) [] h)
        (.ok (.tup [.s (.i .i64 (nth Ln.z (dec B.cells) (atF a p (dec B.cells) 0).toNat).x), .s (.i .i64 (nth Ln.z (dec B.cells) (atF a p (dec B.cells) 0).toNat).r), .s (.b true)]) [] h))
    | none => .bad
  | _, _ => .bad

theorem find_snd : Snd Try.prog 10 (FSpec.of findG) := snd_run G2_snd mixed Try.func10 dc10 100 fun args h K _ hS => by
  unfold findG at hS
  split at hS
  · rename_i k a p
    split at hS
    · rename_i B hk
      obtain ⟨⟨hB, h8⟩, hS⟩ := hS
      generalize dec B.cells = L at *
      subst hB
      simp only [spec_br, spec_ok] at hS
      rcases atF_cases a p L 0 with e | ⟨j, hj, e⟩
      · rw [e] at hS
        simp (config := { maxSteps := 10000000 }) only [run_je, resume_leaf, resume_all, resume_bad, resume_res, resume_cond, resume_ob, join_leaf, join_ob1, join_ob2, obS_true, obS_false, zipC_nil, zipC_cons, jv_self, jv_b, jv_i, cond_ff, cond_tt, cond_ft, cond_tf, cond_same, run_zero, run_nil, run_blk, run_lp, run_gi0, run_gi, run_gig, run_q0, run_q, run_qg, run_skip, run_reg, run_drt, run_drq, cut_s, cut_0, run_drm, frames_nil, frames_q, frames_g, run_seq, run_cond, run_block, run_loop, run_exit, run_ret, cont_ok, cont_br, cont_ob, cont_call, cont_app, cont_bad, contG_ok, contG_br, contG_ob, contG_call, contG_app, contG_bad, contQ_ok, contQ_br, contQ_ob, contQ_call, contQ_callv, contQ_bad, contQ2_ok, contQ2_br, contQ2_ob, contQG_some, contQH_ok, contQH_br, contQH_ob, guard_b, guard_t, guardQ_b, guardQ_t, condV_b, exitV_some, callR_t, callR_f, callO_some, callO_none, callL_some, callL_none, into_ok, into_ob, into_br, unlend_ok, unlend_ob, unlend_br, addT, istep, pickR, ev_t, ev_k, tg_some, putD, bin1R, un1R, slcR, bnd, capsOf, fillP, put_nil, put_succ, put_zero, V.plain, V.cells, V.known, C.v, known_nil, known_cons, blk, setL, setH, eqS, eq1, cmpS, cmp1, isNil, popTo, killT, setT, leT, V.below, S.below, R.below, V.val, C.val, S.val, R.val, R.takes, vals, shows, unnamed, V.kill, V.names, C.names, S.names, R.names, List.map_cons, List.map_nil, q_all_cons, q_all_nil, List.set, q_get0, q_getS, q_getN, q_len_cons, q_len_nil, q_cons_app, q_nil_app, List.append_nil, List.append_assoc, List.length_append, app_get0, app_getn, app_set0, app_setn, List.replicate, ↓q_cond_t, ↓q_cond_f, Bool.and_true, Bool.true_and, Bool.and_false, Bool.false_and, Bool.or_true, Bool.true_or, Bool.or_false, Bool.false_or, Bool.not_true, Bool.not_false, if_true, if_false, Bool.false_eq_true, reduceCtorEq, holds_done, holds_obS, holds_all, holds_lp, holds_bad, holds_cond_eq, fin_ret, fin_nrm, finO_some, leave_eq, leaveB_true, rvals, rval_t, rval_c, rvT_s, rvT_agg, rvC, result, C.known, V.noL, C.noL, S.noL, R.noL, Option.map, true_and, and_true, false_and, and_false, ge_iff_le, gt_iff_lt, q_cast, false_imp_iff, true_imp_iff, implies_true, not_true_eq_false, Classical.not_not, q_ite_t, q_ite_f, true_or, or_true, or_self, or_false, false_or, Nat.lt_irrefl, Nat.one_mul, Nat.mul_one, decide_true, decide_false, decide_eq_true_eq, Bool.not_eq_true', Bool.not_eq_false', Bool.and_eq_true, Bool.or_eq_true, Bool.eq_false_iff, beq_iff_eq, bne_iff_ne, Nat.zero_add, q_add_zero, Nat.zero_mul, Nat.le_refl, q_ne, not_false_eq_true, q_toNat, sub_succ, sub_zero, sub_none, List.length_set, Nat.reduceAdd, Nat.reducePow, Int.reducePow, Nat.reduceMul, Nat.reduceSub, Nat.reduceLeDiff, Nat.reduceLT, Nat.reduceEqDiff, Int.reduceNeg, Int.reduceLT, Int.reduceLE, Int.reduceEq, Int.reduceNe, Int.reduceAdd, Int.reduceSub, Int.reduceMul, Int.reduceToNat, beq_self_eq_true, bne_self_eq_false, Int.reduceBEq, Int.reduceBNe, df10, G2, G1, atG, hk, isTlb_tlbB, tlbB_cells, dec_arr, e, h8]
        exact hS.1 rfl
      · rw [Nat.zero_add] at e
        have hj8 : j < 8 := by omega
        have hn : ¬ ((j : Int) < 0) := by omega
        have h0 : (0 : Int) ≤ j := by omega
        have hj8' : (j : Int) < 8 := by omega
        have g2 : (arr Ln.c L)[j * 4 + 2]? = some (.i .i64 (nth Ln.z L j).x) := by rw [arr_get Ln.c_len hj (by omega), nth_eq hj]; rfl
        have g3 : (arr Ln.c L)[j * 4 + 3]? = some (.i .i64 (nth Ln.z L j).r) := by rw [arr_get Ln.c_len hj (by omega), nth_eq hj]; rfl
        rw [e] at hS
        have hS := hS.2 (by simp [hn])
        simp (config := { maxSteps := 10000000 }) only [run_je, resume_leaf, resume_all, resume_bad, resume_res, resume_cond, resume_ob, join_leaf, join_ob1, join_ob2, obS_true, obS_false, zipC_nil, zipC_cons, jv_self, jv_b, jv_i, cond_ff, cond_tt, cond_ft, cond_tf, cond_same, run_zero, run_nil, run_blk, run_lp, run_gi0, run_gi, run_gig, run_q0, run_q, run_qg, run_skip, run_reg, run_drt, run_drq, cut_s, cut_0, run_drm, frames_nil, frames_q, frames_g, run_seq, run_cond, run_block, run_loop, run_exit, run_ret, cont_ok, cont_br, cont_ob, cont_call, cont_app, cont_bad, contG_ok, contG_br, contG_ob, contG_call, contG_app, contG_bad, contQ_ok, contQ_br, contQ_ob, contQ_call, contQ_callv, contQ_bad, contQ2_ok, contQ2_br, contQ2_ob, contQG_some, contQH_ok, contQH_br, contQH_ob, guard_b, guard_t, guardQ_b, guardQ_t, condV_b, exitV_some, callR_t, callR_f, callO_some, callO_none, callL_some, callL_none, into_ok, into_ob, into_br, unlend_ok, unlend_ob, unlend_br, addT, istep, pickR, ev_t, ev_k, tg_some, putD, bin1R, un1R, slcR, bnd, capsOf, fillP, put_nil, put_succ, put_zero, V.plain, V.cells, V.known, C.v, known_nil, known_cons, blk, setL, setH, eqS, eq1, cmpS, cmp1, isNil, popTo, killT, setT, leT, V.below, S.below, R.below, V.val, C.val, S.val, R.val, R.takes, vals, shows, unnamed, V.kill, V.names, C.names, S.names, R.names, List.map_cons, List.map_nil, q_all_cons, q_all_nil, List.set, q_get0, q_getS, q_getN, q_len_cons, q_len_nil, q_cons_app, q_nil_app, List.append_nil, List.append_assoc, List.length_append, app_get0, app_getn, app_set0, app_setn, List.replicate, ↓q_cond_t, ↓q_cond_f, Bool.and_true, Bool.true_and, Bool.and_false, Bool.false_and, Bool.or_true, Bool.true_or, Bool.or_false, Bool.false_or, Bool.not_true, Bool.not_false, if_true, if_false, Bool.false_eq_true, reduceCtorEq, holds_done, holds_obS, holds_all, holds_lp, holds_bad, holds_cond_eq, fin_ret, fin_nrm, finO_some, leave_eq, leaveB_true, rvals, rval_t, rval_c, rvT_s, rvT_agg, rvC, result, C.known, V.noL, C.noL, S.noL, R.noL, Option.map, true_and, and_true, false_and, and_false, ge_iff_le, gt_iff_lt, q_cast, false_imp_iff, true_imp_iff, implies_true, not_true_eq_false, Classical.not_not, q_ite_t, q_ite_f, true_or, or_true, or_self, or_false, false_or, Nat.lt_irrefl, Nat.one_mul, Nat.mul_one, decide_true, decide_false, decide_eq_true_eq, Bool.not_eq_true', Bool.not_eq_false', Bool.and_eq_true, Bool.or_eq_true, Bool.eq_false_iff, beq_iff_eq, bne_iff_ne, Nat.zero_add, q_add_zero, Nat.zero_mul, Nat.le_refl, q_ne, not_false_eq_true, q_toNat, sub_succ, sub_zero, sub_none, List.length_set, Nat.reduceAdd, Nat.reducePow, Int.reducePow, Nat.reduceMul, Nat.reduceSub, Nat.reduceLeDiff, Nat.reduceLT, Nat.reduceEqDiff, Int.reduceNeg, Int.reduceLT, Int.reduceLE, Int.reduceEq, Int.reduceNe, Int.reduceAdd, Int.reduceSub, Int.reduceMul, Int.reduceToNat, beq_self_eq_true, bne_self_eq_false, Int.reduceBEq, Int.reduceBNe, df10, G2, G1, atG, hk, isTlb_tlbB, tlbB_cells, tlbB_st, dec_arr, e, h8, hn, h0, hj8', g2, g3, q_cast]
        exact hS
    · exact hS.elim
  · exact hS.elim

/-- May a line be? -/
def Ln.may (l : Ln) : Bool := decide (1 ≤ l.a ∧ l.a ≤ 63 ∧ 0 ≤ l.p ∧ l.p ≤ 4095 ∧ 16 ≤ l.x ∧ l.x ≤ 65520 ∧ l.x % 16 = 0 ∧ 0 ≤ l.r ∧ l.r ≤ 3)
/-- Where a line goes. -/
def slotF (l : Ln) (at_ : Int) (L : List Ln) : Nat := if atF l.a l.p L 0 < 0 then at_.toNat else (atF l.a l.p L 0).toNat
def fillB (l : Ln) (at_ : Int) : Bool := l.may && decide (0 ≤ at_ ∧ at_ ≤ 7)

def fillG : List V → List Blk → Res
  | [.s (.p (.g k) 0), .agg [.i .i64 a, .i .i64 p, .i .i64 x, .i .i64 r], .s (.i .i64 at_)], h => match h[k]? with
    | some B => .ob (isTlb B) (.br (fillB ⟨a, p, x, r⟩ at_) (.ok (.s (.i .i64 0)) [] (h.set k (tlbB ((dec B.cells).set (slotF ⟨a, p, x, r⟩ at_ (dec B.cells)) ⟨a, p, x, r⟩))))
        (.ok (.s (.i .i64 1)) [] h))
    | none => .bad
  | _, _ => .bad

theorem arr_put4 {L : List Ln} {n : Nat} (h : n < L.length) (a p x r : Int) : put (arr Ln.c L) (n * 4) [.i .i64 a, .i .i64 p, .i .i64 x, .i .i64 r] = arr Ln.c (L.set n ⟨a, p, x, r⟩) :=
  arr_put Ln.c_len h ⟨a, p, x, r⟩

theorem fill_snd : Snd Try.prog 9 (FSpec.of fillG) := snd_run G2_snd mixed Try.func9 dc9 200 fun args h K _ hS => by
  unfold fillG at hS
  split at hS
  · rename_i k a p x r at_
    split at hS
    · rename_i B hk
      obtain ⟨⟨hB, h8⟩, hS⟩ := hS
      generalize dec B.cells = L at *
      subst hB
      simp only [spec_br, spec_ok] at hS
      have hb : fillB ⟨a, p, x, r⟩ at_ = true ↔ (1 ≤ a ∧ a ≤ 63) ∧ (0 ≤ p ∧ p ≤ 4095) ∧ (16 ≤ x ∧ x ≤ 65520) ∧ x.tmod 16 = 0 ∧ (0 ≤ r ∧ r ≤ 3) ∧ (0 ≤ at_ ∧ at_ ≤ 7) := by
        simp only [fillB, Ln.may, Bool.and_eq_true, decide_eq_true_eq]
        constructor
        · intro h
          have := Int.tmod_eq_emod_of_nonneg (a := x) (b := 16) (by omega)
          omega
        · intro h
          have := Int.tmod_eq_emod_of_nonneg (a := x) (b := 16) (by omega)
          omega
      have hf : ¬ ((1 ≤ a ∧ a ≤ 63) ∧ (0 ≤ p ∧ p ≤ 4095) ∧ (16 ≤ x ∧ x ≤ 65520) ∧ x.tmod 16 = 0 ∧ (0 ≤ r ∧ r ≤ 3) ∧ (0 ≤ at_ ∧ at_ ≤ 7)) → K (.s (.i .i64 1)) h := fun hn => hS.2 (by
        rw [← Bool.not_eq_true]; exact fun e => hn (hb.1 e))
      have ht : (1 ≤ a ∧ a ≤ 63) ∧ (0 ≤ p ∧ p ≤ 4095) ∧ (16 ≤ x ∧ x ≤ 65520) ∧ x.tmod 16 = 0 ∧ (0 ≤ r ∧ r ≤ 3) ∧ (0 ≤ at_ ∧ at_ ≤ 7) → K (.s (.i .i64 0)) (h.set k (tlbB (L.set (slotF ⟨a, p, x, r⟩ at_ L) ⟨a, p, x, r⟩))) := fun hn => hS.1 (hb.2 hn)
      clear hS
      have hlen : (arr Ln.c L).length = 32 := by rw [arr_length Ln.c_len, h8]
      rcases atF_cases a p L 0 with e | ⟨j, hj, e⟩
      · simp (config := { maxSteps := 10000000 }) only [run_je, resume_leaf, resume_all, resume_bad, resume_res, resume_cond, resume_ob, join_leaf, join_ob1, join_ob2, obS_true, obS_false, zipC_nil, zipC_cons, jv_self, jv_b, jv_i, cond_ff, cond_tt, cond_ft, cond_tf, cond_same, run_zero, run_nil, run_blk, run_lp, run_gi0, run_gi, run_gig, run_q0, run_q, run_qg, run_skip, run_reg, run_drt, run_drq, cut_s, cut_0, run_drm, frames_nil, frames_q, frames_g, run_seq, run_cond, run_block, run_loop, run_exit, run_ret, cont_ok, cont_br, cont_ob, cont_call, cont_app, cont_bad, contG_ok, contG_br, contG_ob, contG_call, contG_app, contG_bad, contQ_ok, contQ_br, contQ_ob, contQ_call, contQ_callv, contQ_bad, contQ2_ok, contQ2_br, contQ2_ob, contQG_some, contQH_ok, contQH_br, contQH_ob, guard_b, guard_t, guardQ_b, guardQ_t, condV_b, exitV_some, callR_t, callR_f, callO_some, callO_none, callL_some, callL_none, into_ok, into_ob, into_br, unlend_ok, unlend_ob, unlend_br, addT, istep, pickR, ev_t, ev_k, tg_some, putD, bin1R, un1R, slcR, bnd, capsOf, fillP, put_nil, put_succ, put_zero, V.plain, V.cells, V.known, C.v, known_nil, known_cons, blk, setL, setH, eqS, eq1, cmpS, cmp1, isNil, popTo, killT, setT, leT, V.below, S.below, R.below, V.val, C.val, S.val, R.val, R.takes, vals, shows, unnamed, V.kill, V.names, C.names, S.names, R.names, List.map_cons, List.map_nil, q_all_cons, q_all_nil, List.set, q_get0, q_getS, q_getN, q_len_cons, q_len_nil, q_cons_app, q_nil_app, List.append_nil, List.append_assoc, List.length_append, app_get0, app_getn, app_set0, app_setn, List.replicate, ↓q_cond_t, ↓q_cond_f, Bool.and_true, Bool.true_and, Bool.and_false, Bool.false_and, Bool.or_true, Bool.true_or, Bool.or_false, Bool.false_or, Bool.not_true, Bool.not_false, if_true, if_false, Bool.false_eq_true, reduceCtorEq, holds_done, holds_obS, holds_all, holds_lp, holds_bad, holds_cond_eq, fin_ret, fin_nrm, finO_some, leave_eq, leaveB_true, rvals, rval_t, rval_c, rvT_s, rvT_agg, rvC, result, C.known, V.noL, C.noL, S.noL, R.noL, Option.map, true_and, and_true, false_and, and_false, ge_iff_le, gt_iff_lt, q_cast, false_imp_iff, true_imp_iff, implies_true, not_true_eq_false, Classical.not_not, q_ite_t, q_ite_f, true_or, or_true, or_self, or_false, false_or, Nat.lt_irrefl, Nat.one_mul, Nat.mul_one, decide_true, decide_false, decide_eq_true_eq, Bool.not_eq_true', Bool.not_eq_false', Bool.and_eq_true, Bool.or_eq_true, Bool.eq_false_iff, beq_iff_eq, bne_iff_ne, Nat.zero_add, q_add_zero, Nat.zero_mul, Nat.le_refl, q_ne, not_false_eq_true, q_toNat, sub_succ, sub_zero, sub_none, List.length_set, Nat.reduceAdd, Nat.reducePow, Int.reducePow, Nat.reduceMul, Nat.reduceSub, Nat.reduceLeDiff, Nat.reduceLT, Nat.reduceEqDiff, Int.reduceNeg, Int.reduceLT, Int.reduceLE, Int.reduceEq, Int.reduceNe, Int.reduceAdd, Int.reduceSub, Int.reduceMul, Int.reduceToNat, beq_self_eq_true, bne_self_eq_false, Int.reduceBEq, Int.reduceBNe, df9, G2, G1, inG, atG, hk, isTlb_tlbB, tlbB_st, tlbB_cells, tlbB_room, dec_arr, e, h8, hlen]
        repeat' (first | refine And.intro ?_ ?_ | intro _)
        all_goals first | exact hf (by omega) | omega | (exfalso; omega) | skip
        refine cast ?_ (ht (by omega))
        rw [arr_put4 (by omega)]
        simp only [slotF, e, Int.reduceNeg, Int.reduceLT, if_true]
        rfl
      · rw [Nat.zero_add] at e
        have hj8 : j < 8 := by omega
        have hn : ¬ ((j : Int) < 0) := by omega
        have h0 : (0 : Int) ≤ j := by omega
        have hj8' : (j : Int) < 8 := by omega
        have hle : j * 4 ≤ 28 := by omega
        have hp := fun a p x r => arr_put4 hj a p x r
        simp (config := { maxSteps := 10000000 }) only [run_je, resume_leaf, resume_all, resume_bad, resume_res, resume_cond, resume_ob, join_leaf, join_ob1, join_ob2, obS_true, obS_false, zipC_nil, zipC_cons, jv_self, jv_b, jv_i, cond_ff, cond_tt, cond_ft, cond_tf, cond_same, run_zero, run_nil, run_blk, run_lp, run_gi0, run_gi, run_gig, run_q0, run_q, run_qg, run_skip, run_reg, run_drt, run_drq, cut_s, cut_0, run_drm, frames_nil, frames_q, frames_g, run_seq, run_cond, run_block, run_loop, run_exit, run_ret, cont_ok, cont_br, cont_ob, cont_call, cont_app, cont_bad, contG_ok, contG_br, contG_ob, contG_call, contG_app, contG_bad, contQ_ok, contQ_br, contQ_ob, contQ_call, contQ_callv, contQ_bad, contQ2_ok, contQ2_br, contQ2_ob, contQG_some, contQH_ok, contQH_br, contQH_ob, guard_b, guard_t, guardQ_b, guardQ_t, condV_b, exitV_some, callR_t, callR_f, callO_some, callO_none, callL_some, callL_none, into_ok, into_ob, into_br, unlend_ok, unlend_ob, unlend_br, addT, istep, pickR, ev_t, ev_k, tg_some, putD, bin1R, un1R, slcR, bnd, capsOf, fillP, put_nil, put_succ, put_zero, V.plain, V.cells, V.known, C.v, known_nil, known_cons, blk, setL, setH, eqS, eq1, cmpS, cmp1, isNil, popTo, killT, setT, leT, V.below, S.below, R.below, V.val, C.val, S.val, R.val, R.takes, vals, shows, unnamed, V.kill, V.names, C.names, S.names, R.names, List.map_cons, List.map_nil, q_all_cons, q_all_nil, List.set, q_get0, q_getS, q_getN, q_len_cons, q_len_nil, q_cons_app, q_nil_app, List.append_nil, List.append_assoc, List.length_append, app_get0, app_getn, app_set0, app_setn, List.replicate, ↓q_cond_t, ↓q_cond_f, Bool.and_true, Bool.true_and, Bool.and_false, Bool.false_and, Bool.or_true, Bool.true_or, Bool.or_false, Bool.false_or, Bool.not_true, Bool.not_false, if_true, if_false, Bool.false_eq_true, reduceCtorEq, holds_done, holds_obS, holds_all, holds_lp, holds_bad, holds_cond_eq, fin_ret, fin_nrm, finO_some, leave_eq, leaveB_true, rvals, rval_t, rval_c, rvT_s, rvT_agg, rvC, result, C.known, V.noL, C.noL, S.noL, R.noL, Option.map, true_and, and_true, false_and, and_false, ge_iff_le, gt_iff_lt, q_cast, false_imp_iff, true_imp_iff, implies_true, not_true_eq_false, Classical.not_not, q_ite_t, q_ite_f, true_or, or_true, or_self, or_false, false_or, Nat.lt_irrefl, Nat.one_mul, Nat.mul_one, decide_true, decide_false, decide_eq_true_eq, Bool.not_eq_true', Bool.not_eq_false', Bool.and_eq_true, Bool.or_eq_true, Bool.eq_false_iff, beq_iff_eq, bne_iff_ne, Nat.zero_add, q_add_zero, Nat.zero_mul, Nat.le_refl, q_ne, not_false_eq_true, q_toNat, sub_succ, sub_zero, sub_none, List.length_set, Nat.reduceAdd, Nat.reducePow, Int.reducePow, Nat.reduceMul, Nat.reduceSub, Nat.reduceLeDiff, Nat.reduceLT, Nat.reduceEqDiff, Int.reduceNeg, Int.reduceLT, Int.reduceLE, Int.reduceEq, Int.reduceNe, Int.reduceAdd, Int.reduceSub, Int.reduceMul, Int.reduceToNat, beq_self_eq_true, bne_self_eq_false, Int.reduceBEq, Int.reduceBNe, df9, G2, G1, inG, atG, hk, isTlb_tlbB, tlbB_st, tlbB_cells, tlbB_room, dec_arr, e, h8, hlen, hn, h0, hj8', hle, hp]
        repeat' (first | refine And.intro ?_ ?_ | intro _)
        all_goals first | exact hf (by omega) | (exfalso; omega) | skip
        refine cast ?_ (ht (by omega))
        simp only [slotF, e, hn, if_false, Int.toNat_natCast]
        rfl
    · exact hS.elim
  · exact hS.elim

def evictG : List V → List Blk → Res
  | [.s (.p (.g k) 0), .s (.i .i64 at_)], h => match h[k]? with
    | some B => .ob (isTlb B) (.br (decide (0 ≤ at_ ∧ at_ ≤ 7)) (.ok (.s (.i .i64 0)) [] (h.set k (tlbB ((dec B.cells).set at_.toNat Ln.z)))) (.ok (.s (.i .i64 1)) [] h))
    | none => .bad
  | _, _ => .bad

theorem evict_snd : Snd Try.prog 16 (FSpec.of evictG) := snd_run G2_snd mixed Try.func16 dc16 100 fun args h K _ hS => by
  unfold evictG at hS
  split at hS
  · rename_i k at_
    split at hS
    · rename_i B hk
      obtain ⟨⟨hB, h8⟩, hS⟩ := hS
      generalize dec B.cells = L at *
      subst hB
      simp only [spec_br, spec_ok, decide_eq_true_eq, decide_eq_false_iff_not] at hS
      have hlen : (arr Ln.c L).length = 32 := by rw [arr_length Ln.c_len, h8]
      simp (config := { maxSteps := 10000000 }) only [run_je, resume_leaf, resume_all, resume_bad, resume_res, resume_cond, resume_ob, join_leaf, join_ob1, join_ob2, obS_true, obS_false, zipC_nil, zipC_cons, jv_self, jv_b, jv_i, cond_ff, cond_tt, cond_ft, cond_tf, cond_same, run_zero, run_nil, run_blk, run_lp, run_gi0, run_gi, run_gig, run_q0, run_q, run_qg, run_skip, run_reg, run_drt, run_drq, cut_s, cut_0, run_drm, frames_nil, frames_q, frames_g, run_seq, run_cond, run_block, run_loop, run_exit, run_ret, cont_ok, cont_br, cont_ob, cont_call, cont_app, cont_bad, contG_ok, contG_br, contG_ob, contG_call, contG_app, contG_bad, contQ_ok, contQ_br, contQ_ob, contQ_call, contQ_callv, contQ_bad, contQ2_ok, contQ2_br, contQ2_ob, contQG_some, contQH_ok, contQH_br, contQH_ob, guard_b, guard_t, guardQ_b, guardQ_t, condV_b, exitV_some, callR_t, callR_f, callO_some, callO_none, callL_some, callL_none, into_ok, into_ob, into_br, unlend_ok, unlend_ob, unlend_br, addT, istep, pickR, ev_t, ev_k, tg_some, putD, bin1R, un1R, slcR, bnd, capsOf, fillP, put_nil, put_succ, put_zero, V.plain, V.cells, V.known, C.v, known_nil, known_cons, blk, setL, setH, eqS, eq1, cmpS, cmp1, isNil, popTo, killT, setT, leT, V.below, S.below, R.below, V.val, C.val, S.val, R.val, R.takes, vals, shows, unnamed, V.kill, V.names, C.names, S.names, R.names, List.map_cons, List.map_nil, q_all_cons, q_all_nil, List.set, q_get0, q_getS, q_getN, q_len_cons, q_len_nil, q_cons_app, q_nil_app, List.append_nil, List.append_assoc, List.length_append, app_get0, app_getn, app_set0, app_setn, List.replicate, ↓q_cond_t, ↓q_cond_f, Bool.and_true, Bool.true_and, Bool.and_false, Bool.false_and, Bool.or_true, Bool.true_or, Bool.or_false, Bool.false_or, Bool.not_true, Bool.not_false, if_true, if_false, Bool.false_eq_true, reduceCtorEq, holds_done, holds_obS, holds_all, holds_lp, holds_bad, holds_cond_eq, fin_ret, fin_nrm, finO_some, leave_eq, leaveB_true, rvals, rval_t, rval_c, rvT_s, rvT_agg, rvC, result, C.known, V.noL, C.noL, S.noL, R.noL, Option.map, true_and, and_true, false_and, and_false, ge_iff_le, gt_iff_lt, q_cast, false_imp_iff, true_imp_iff, implies_true, not_true_eq_false, Classical.not_not, q_ite_t, q_ite_f, true_or, or_true, or_self, or_false, false_or, Nat.lt_irrefl, Nat.one_mul, Nat.mul_one, decide_true, decide_false, decide_eq_true_eq, Bool.not_eq_true', Bool.not_eq_false', Bool.and_eq_true, Bool.or_eq_true, Bool.eq_false_iff, beq_iff_eq, bne_iff_ne, Nat.zero_add, q_add_zero, Nat.zero_mul, Nat.le_refl, q_ne, not_false_eq_true, q_toNat, sub_succ, sub_zero, sub_none, List.length_set, Nat.reduceAdd, Nat.reducePow, Int.reducePow, Nat.reduceMul, Nat.reduceSub, Nat.reduceLeDiff, Nat.reduceLT, Nat.reduceEqDiff, Int.reduceNeg, Int.reduceLT, Int.reduceLE, Int.reduceEq, Int.reduceNe, Int.reduceAdd, Int.reduceSub, Int.reduceMul, Int.reduceToNat, beq_self_eq_true, bne_self_eq_false, Int.reduceBEq, Int.reduceBNe, df16, G2, G1, inG, hk, tlbB_st, tlbB_cells, tlbB_room, h8, hlen]
      refine ⟨fun h1 => by omega, fun h1 => by omega, hS.2, fun h1 => ?_⟩
      have := hS.1 h1
      rw [arr_put4 (by omega)]
      exact this
    · exact hS.elim
  · exact hS.elim

/-- A list of all lines, of its own. -/
def ownB (L : List Ln) : Blk := ⟨.rw, arr Ln.c L, 32⟩

def linesG : List V → List Blk → Res
  | [.s (.p (.g k) 0)], h => match h[k]? with
    | some B => .ob (isTlb B) (.ok (.s (.sl (.g h.length) 0 8 8)) [] (h ++ [ownB (dec B.cells)]))
    | none => .bad
  | _, _ => .bad

theorem put_all : ∀ (vs xs : List S), xs.length = vs.length → put xs 0 vs = vs
  | [], [], _ => rfl
  | v :: vs, x :: xs, e => by rw [put_zero, put_all vs xs (by simpa using e)]
  | [], _ :: _, e => by simp at e
  | _ :: _, [], e => by simp at e

theorem lines_snd : Snd Try.prog 17 (FSpec.of linesG) := snd_run (noT_snd _) mixed Try.func17 dc17 100 fun args h K _ hS => by
  unfold linesG at hS
  split at hS
  · rename_i k
    split at hS
    · rename_i B hk
      obtain ⟨⟨hB, h8⟩, hS⟩ := hS
      generalize dec B.cells = L at *
      subst hB
      rw [spec_ok] at hS
      have hlen : (arr Ln.c L).length = 32 := by rw [arr_length Ln.c_len, h8]
      have hsub : sub (arr Ln.c L) 0 32 = arr Ln.c L := by
        have := arr_subs Ln.c_len L 0 8
        simp only [Nat.zero_mul] at this
        rw [this]; simp [← h8]
      have hv : ∀ n m : Nat, (arr Ln.c L).all (S.val n m) = true := fun n m => arr_ints _ (fun _ => rfl) L
      have ht : (arr Ln.c L).all ((R.l 0).takes h.length 1) = true := arr_ints _ (fun _ => rfl) L
      simp (config := { maxSteps := 10000000 }) only [run_je, resume_leaf, resume_all, resume_bad, resume_res, resume_cond, resume_ob, join_leaf, join_ob1, join_ob2, obS_true, obS_false, zipC_nil, zipC_cons, jv_self, jv_b, jv_i, cond_ff, cond_tt, cond_ft, cond_tf, cond_same, run_zero, run_nil, run_blk, run_lp, run_gi0, run_gi, run_gig, run_q0, run_q, run_qg, run_skip, run_reg, run_drt, run_drq, cut_s, cut_0, run_drm, frames_nil, frames_q, frames_g, run_seq, run_cond, run_block, run_loop, run_exit, run_ret, cont_ok, cont_br, cont_ob, cont_call, cont_app, cont_bad, contG_ok, contG_br, contG_ob, contG_call, contG_app, contG_bad, contQ_ok, contQ_br, contQ_ob, contQ_call, contQ_callv, contQ_bad, contQ2_ok, contQ2_br, contQ2_ob, contQG_some, contQH_ok, contQH_br, contQH_ob, guard_b, guard_t, guardQ_b, guardQ_t, condV_b, exitV_some, callR_t, callR_f, callO_some, callO_none, callL_some, callL_none, into_ok, into_ob, into_br, unlend_ok, unlend_ob, unlend_br, addT, istep, pickR, ev_t, ev_k, tg_some, putD, bin1R, un1R, slcR, bnd, capsOf, fillP, put_nil, put_succ, put_zero, V.plain, V.cells, V.known, C.v, known_nil, known_cons, blk, setL, setH, eqS, eq1, cmpS, cmp1, isNil, popTo, killT, setT, leT, V.below, S.below, R.below, V.val, C.val, S.val, R.val, R.takes, vals, shows, unnamed, V.kill, V.names, C.names, S.names, R.names, List.map_cons, List.map_nil, q_all_cons, q_all_nil, List.set, q_get0, q_getS, q_getN, q_len_cons, q_len_nil, q_cons_app, q_nil_app, List.append_nil, List.append_assoc, List.length_append, app_get0, app_getn, app_set0, app_setn, List.replicate, ↓q_cond_t, ↓q_cond_f, Bool.and_true, Bool.true_and, Bool.and_false, Bool.false_and, Bool.or_true, Bool.true_or, Bool.or_false, Bool.false_or, Bool.not_true, Bool.not_false, if_true, if_false, Bool.false_eq_true, reduceCtorEq, holds_done, holds_obS, holds_all, holds_lp, holds_bad, holds_cond_eq, fin_ret, fin_nrm, finO_some, leave_eq, leaveB_true, rvals, rval_t, rval_c, rvT_s, rvT_agg, rvC, result, C.known, V.noL, C.noL, S.noL, R.noL, Option.map, true_and, and_true, false_and, and_false, ge_iff_le, gt_iff_lt, q_cast, false_imp_iff, true_imp_iff, implies_true, not_true_eq_false, Classical.not_not, q_ite_t, q_ite_f, true_or, or_true, or_self, or_false, false_or, Nat.lt_irrefl, Nat.one_mul, Nat.mul_one, decide_true, decide_false, decide_eq_true_eq, Bool.not_eq_true', Bool.not_eq_false', Bool.and_eq_true, Bool.or_eq_true, Bool.eq_false_iff, beq_iff_eq, bne_iff_ne, Nat.zero_add, q_add_zero, Nat.zero_mul, Nat.le_refl, q_ne, not_false_eq_true, q_toNat, sub_succ, sub_zero, sub_none, List.length_set, Nat.reduceAdd, Nat.reducePow, Int.reducePow, Nat.reduceMul, Nat.reduceSub, Nat.reduceLeDiff, Nat.reduceLT, Nat.reduceEqDiff, Int.reduceNeg, Int.reduceLT, Int.reduceLE, Int.reduceEq, Int.reduceNe, Int.reduceAdd, Int.reduceSub, Int.reduceMul, Int.reduceToNat, beq_self_eq_true, bne_self_eq_false, Int.reduceBEq, Int.reduceBNe, df17, hk, tlbB_st, tlbB_cells, tlbB_room, hlen, hsub, arr_known, ht]
      rw [put_all _ _ (by rw [hlen]; rfl)]
      refine ⟨[0], by simp, rfl, ?_⟩
      simp only [getAll, List.getElem?_cons_zero]
      refine ⟨?_, ?_⟩
      · simp only [List.all_cons, List.all_nil, decide_true, Bool.true_and, Bool.and_true]
        exact arr_ints _ (fun _ => rfl) L
      · refine cast ?_ hS
        congr 2
        simp only [ownB, List.map_cons, List.map_nil, Blk.ren]
        congr 2
        have : ∀ L : List Ln, arr Ln.c L = (arr Ln.c L).map (S.ren (R.prom h.length [0])) := fun L => by
          induction L with
          | nil => rfl
          | cons l L ih => simp only [arr, List.map_append, ← ih]; rfl
        exact this L
    · exact hS.elim
  · exact hS.elim

end Go.Proofs.Ytkdamkfkgnnbeaa
