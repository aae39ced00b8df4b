/- The document's caps: plain laws for Right. -/
import Derived.Test.YthegocjfnjfkdaaK4
namespace Go.Proofs.Ythegocjfnjfkdaa
open Go.D
set_option linter.all false
set_option maxRecDepth 100000
set_option maxHeartbeats 4000000

theorem adr_iff {o w : Int} : adrV o w = true ↔ ¬ (o < 1024 ∨ 65535 < o ∨ ¬ o.tmod w = 0) := by
  simp only [adrV, Bool.and_eq_true, decide_eq_true_eq, beq_iff_eq]; omega
theorem close3 {P : Bool → Prop} {A B : Prop} [Decidable A] [Decidable B] {q X X' : Bool} (hq : q = true ↔ ¬ B) (hx : X = X') (h : P (if A then (if B then false else X) else false)) :
    (¬ A → P false) ∧ (A → (¬ q = true → P false) ∧ (q = true → P X')) := by
  subst hx
  have h1 := close2 h
  exact ⟨h1.1, fun a => ⟨fun n => (close1 (h1.2 a)).1 (Classical.byContradiction fun c => n (hq.2 c)), fun y => (close1 (h1.2 a)).2 (hq.1 y)⟩⟩
theorem sz_law {P : Bool → Prop} {ok Z B : Prop} [Decidable ok] [Decidable Z] [Decidable B] {N N' : Int} {q X X' : Bool} (hN : ok → N' = N ∧ 0 < N) (hn : ¬ ok → N' = 0) (hq : ok → (q = true ↔ ¬ B)) (hx : ok → X' = X) (hz : ¬ ok → X' = false)
    (h : P (if ¬ ok ∨ ¬ Z then false else if 0 < N ∧ B then false else X)) :
    (¬ Z → P false) ∧ (Z → (0 < N' → (¬ q = true → P false) ∧ (q = true → P X')) ∧ (¬ 0 < N' → P X')) := by
  have h1 := close1 h
  refine ⟨fun z => h1.1 (.inr z), fun z => ?_⟩
  by_cases o : ok
  · have h2 := close1 (h1.2 fun c => c.elim (fun x => x o) (fun x => x z))
    obtain ⟨e, p⟩ := hN o
    rw [hx o, e]
    exact ⟨fun _ => ⟨fun n => h2.1 ⟨p, Classical.byContradiction fun c => n ((hq o).2 c)⟩, fun y => h2.2 fun c => (hq o).1 y c.2⟩, fun n => absurd p n⟩
  · rw [hz o, hn o]
    have f := h1.1 (.inl o)
    exact ⟨fun _ => ⟨fun _ => f, fun _ => f⟩, fun _ => f⟩
theorem pos2 (n : Nat) : (0 : Int) < 2 ^ n := Int.pow_pos (by decide)
theorem shR_u {b : Int} (h : 4 ≤ b ∧ b ≤ 15) : shR 1 b = uRaw b := by
  have : b = 4 ∨ b = 5 ∨ b = 6 ∨ b = 7 ∨ b = 8 ∨ b = 9 ∨ b = 10 ∨ b = 11 ∨ b = 12 ∨ b = 13 ∨ b = 14 ∨ b = 15 := by omega
  rcases this with rfl | rfl | rfl | rfl | rfl | rfl | rfl | rfl | rfl | rfl | rfl | rfl <;> decide
theorem shR_n {b : Int} (h : 1 ≤ b ∧ b ≤ 8) : shR 4 b = nRaw b := by
  have : b = 1 ∨ b = 2 ∨ b = 3 ∨ b = 4 ∨ b = 5 ∨ b = 6 ∨ b = 7 ∨ b = 8 := by omega
  rcases this with rfl | rfl | rfl | rfl | rfl | rfl | rfl | rfl <;> decide
theorem uRaw_pos {b : Int} (h : 4 ≤ b ∧ b ≤ 15) : 0 < uRaw b := by rw [uRaw_eq h]; exact pos2 _
theorem nRaw_pos {b : Int} (h : 1 ≤ b ∧ b ≤ 8) : 0 < nRaw b := by rw [nRaw_eq h]; have := pos2 b.toNat; omega

theorem pool_eq (k : Int) : (inV k 63 && k.tmod 8 == 0) = (rinV k 0 56 && k.tmod 8 == 0) := by
  rw [Bool.eq_iff_iff]
  simp only [inV, rinV, Bool.and_eq_true, decide_eq_true_eq, beq_iff_eq]
  constructor
  · rintro ⟨⟨h1, h2⟩, h3⟩
    rw [Int.tmod_eq_emod_of_nonneg h1] at h3
    exact ⟨⟨h1, by omega⟩, by rw [Int.tmod_eq_emod_of_nonneg h1]; exact h3⟩
  · rintro ⟨⟨h1, h2⟩, h3⟩
    exact ⟨⟨h1, by omega⟩, h3⟩
theorem table_eq (k l : Int) : mapV k l 1 = (rinV k 0 63 && (rinV l 0 65535 && (decide (0 < k) || l == 0))) := by
  simp [mapV, inV, rinV]
theorem frame_eq (k l : Int) (x : Bool) : (x && mapV k l 16) = (x && (rinV k 0 63 && (rinV l 0 65520 && (l.tmod 16 == 0 && (decide (0 < k) || l == 0))))) := by
  congr 1
  rw [Bool.eq_iff_iff]
  simp only [mapV, inV, rinV, Bool.and_eq_true, Bool.or_eq_true, decide_eq_true_eq, beq_iff_eq]
  constructor
  · rintro ⟨h0, ⟨h1, h2⟩, h3, h4⟩
    rw [Int.tmod_eq_emod_of_nonneg h1] at h3
    exact ⟨h0, ⟨h1, by omega⟩, by rw [Int.tmod_eq_emod_of_nonneg h1]; exact h3, h4⟩
  · rintro ⟨h0, ⟨h1, h2⟩, h3, h4⟩
    exact ⟨h0, ⟨h1, by omega⟩, h3, h4⟩
theorem zrange {b : Int} : ((if b = 31 then true else nOk b) = true) ↔ b = 31 ∨ (1 ≤ b ∧ b ≤ 8) := by
  split
  · simp [*]
  · rw [nOk_iff]; simp [*]

def TQ : Tab := addT 56 rinG (addT 55 adrG (addT 53 onlyG (addT 54 sizeG noT)))
theorem TQ_snd : TQ.Snd Try.prog := addT_snd ok56 rin_snd (addT_snd ok55 adr_snd (addT_snd ok53 only_snd (addT_snd ok54 rsize_snd (noT_snd _))))

theorem rright_snd : Snd Try.prog 16 (FSpec.of rightG) := snd_run TQ_snd mixed Try.func16 dc16 200 fun args h K _ hS => by
  obtain ⟨⟨t, o, b, d, e, g, i, j, k, l, m⟩, rfl, hR⟩ := capF_spec hS
  clear hS
  simp only [Cap.cl, spec_ok, rightB] at hR ⊢
  obtain ⟨P, hP⟩ : ∃ P : Bool → Prop, P = fun B => K (V.s (S.b B)) h := ⟨_, rfl⟩
  rcases kinds t with rfl | rfl | rfl | rfl | rfl | rfl | rfl | rfl | rfl | rfl | rfl | rfl | rfl | rfl | ⟨k0, k1, k2, k3, k4, k5, k6, k7, k8, k9, k10, k11, k12, k13, ho⟩
  all_goals try simp only [k0, k1, k2, k3, k4, k5, k6, k7, k8, k9, k10, k11, k12, k13, if_false] at hR
  all_goals try simp only [Int.reduceEq, if_true, if_false] at hR
  all_goals try simp (config := { maxSteps := 10000000 }) only [run_je, resume_leaf, resume_all, resume_bad, resume_res, resume_cond, resume_ob, join_leaf, join_ob1, join_ob2, obS_true, obS_false, zipC_nil, zipC_cons, jv_self, jv_b, jv_i, cond_ff, cond_tt, cond_ft, cond_tf, cond_same, run_zero, run_nil, run_blk, run_lp, run_gi0, run_gi, run_gig, run_q0, run_q, run_qg, run_skip, run_reg, run_drt, run_drq, cut_s, cut_0, run_drm, frames_nil, frames_q, frames_g, run_seq, run_cond, run_block, run_loop, run_exit, run_ret, cont_ok, cont_br, cont_ob, cont_call, cont_app, cont_bad, cont_all, contG_all, into_all, unlend_all, contG_ok, contG_br, contG_ob, contG_call, contG_app, contG_bad, contQ_ok, contQ_br, contQ_ob, contQ_call, contQ_callv, contQ_bad, contQ2_ok, contQ2_br, contQ2_ob, contQG_some, contQH_ok, contQH_br, contQH_ob, guard_b, guard_t, guardQ_b, guardQ_t, condV_b, exitV_some, callR_t, callR_f, callO_some, callO_none, callL_some, callL_none, into_ok, into_ob, into_br, unlend_ok, unlend_ob, unlend_br, addT, istep, pickR, ev_t, ev_k, tg_some, putD, bin1R, un1R, slcR, bnd, capsOf, fillP, put_nil, put_succ, put_zero, V.plain, V.cells, V.known, C.v, known_nil, known_cons, blk, setL, setH, eqS, eq1, cmpS, cmp1, isNil, popTo, killT, setT, leT, V.below, S.below, R.below, V.val, C.val, S.val, R.val, R.takes, vals, shows, unnamed, V.kill, V.names, C.names, S.names, R.names, List.map_cons, List.map_nil, q_all_cons, q_all_nil, List.set, q_get0, q_getS, q_getN, q_len_cons, q_len_nil, q_cons_app, q_nil_app, List.append_nil, List.append_assoc, List.length_append, app_get0, app_getn, app_set0, app_setn, List.replicate, ↓q_cond_t, ↓q_cond_f, Bool.and_true, Bool.true_and, Bool.and_false, Bool.false_and, Bool.or_true, Bool.true_or, Bool.or_false, Bool.false_or, Bool.not_true, Bool.not_false, if_true, if_false, Bool.false_eq_true, reduceCtorEq, holds_done, holds_obS, holds_all, holds_lp, holds_bad, holds_cond_eq, fin_ret, fin_nrm, finO_some, leave_eq, leaveB_true, rvals, rval_t, rval_c, rvT_s, rvT_agg, rvC, result, C.known, V.noL, C.noL, S.noL, R.noL, Option.map, true_and, and_true, false_and, and_false, ge_iff_le, gt_iff_lt, q_cast, false_imp_iff, true_imp_iff, implies_true, not_true_eq_false, Classical.not_not, q_ite_t, q_ite_f, true_or, or_true, or_self, or_false, false_or, Nat.lt_irrefl, Nat.one_mul, Nat.mul_one, decide_true, decide_false, decide_eq_true_eq, Bool.not_eq_true', Bool.not_eq_false', Bool.and_eq_true, Bool.or_eq_true, Bool.eq_false_iff, beq_iff_eq, bne_iff_ne, Nat.zero_add, q_add_zero, Nat.zero_mul, Nat.le_refl, q_ne, not_false_eq_true, q_toNat, sub_succ, sub_zero, sub_none, List.length_set, Nat.reduceAdd, Nat.reducePow, Int.reducePow, Nat.reduceMul, Nat.reduceSub, Nat.reduceLeDiff, Nat.reduceLT, Nat.reduceEqDiff, Int.reduceNeg, Int.reduceLT, Int.reduceLE, Int.reduceEq, Int.reduceNe, Int.reduceAdd, Int.reduceSub, Int.reduceMul, Int.reduceToNat, beq_self_eq_true, bne_self_eq_false, Int.reduceBEq, Int.reduceBNe, df16, TQ, rinG, adrG, onlyG, sizeG, capF, rszN, onlyC, Cap.cl, k0, k1, k2, k3, k4, k5, k6, k7, k8, k9, k10, k11, k12, k13]
  all_goals try simp (config := { maxSteps := 10000000 }) only [run_je, resume_leaf, resume_all, resume_bad, resume_res, resume_cond, resume_ob, join_leaf, join_ob1, join_ob2, obS_true, obS_false, zipC_nil, zipC_cons, jv_self, jv_b, jv_i, cond_ff, cond_tt, cond_ft, cond_tf, cond_same, run_zero, run_nil, run_blk, run_lp, run_gi0, run_gi, run_gig, run_q0, run_q, run_qg, run_skip, run_reg, run_drt, run_drq, cut_s, cut_0, run_drm, frames_nil, frames_q, frames_g, run_seq, run_cond, run_block, run_loop, run_exit, run_ret, cont_ok, cont_br, cont_ob, cont_call, cont_app, cont_bad, cont_all, contG_all, into_all, unlend_all, contG_ok, contG_br, contG_ob, contG_call, contG_app, contG_bad, contQ_ok, contQ_br, contQ_ob, contQ_call, contQ_callv, contQ_bad, contQ2_ok, contQ2_br, contQ2_ob, contQG_some, contQH_ok, contQH_br, contQH_ob, guard_b, guard_t, guardQ_b, guardQ_t, condV_b, exitV_some, callR_t, callR_f, callO_some, callO_none, callL_some, callL_none, into_ok, into_ob, into_br, unlend_ok, unlend_ob, unlend_br, addT, istep, pickR, ev_t, ev_k, tg_some, putD, bin1R, un1R, slcR, bnd, capsOf, fillP, put_nil, put_succ, put_zero, V.plain, V.cells, V.known, C.v, known_nil, known_cons, blk, setL, setH, eqS, eq1, cmpS, cmp1, isNil, popTo, killT, setT, leT, V.below, S.below, R.below, V.val, C.val, S.val, R.val, R.takes, vals, shows, unnamed, V.kill, V.names, C.names, S.names, R.names, List.map_cons, List.map_nil, q_all_cons, q_all_nil, List.set, q_get0, q_getS, q_getN, q_len_cons, q_len_nil, q_cons_app, q_nil_app, List.append_nil, List.append_assoc, List.length_append, app_get0, app_getn, app_set0, app_setn, List.replicate, ↓q_cond_t, ↓q_cond_f, Bool.and_true, Bool.true_and, Bool.and_false, Bool.false_and, Bool.or_true, Bool.true_or, Bool.or_false, Bool.false_or, Bool.not_true, Bool.not_false, if_true, if_false, Bool.false_eq_true, reduceCtorEq, holds_done, holds_obS, holds_all, holds_lp, holds_bad, holds_cond_eq, fin_ret, fin_nrm, finO_some, leave_eq, leaveB_true, rvals, rval_t, rval_c, rvT_s, rvT_agg, rvC, result, C.known, V.noL, C.noL, S.noL, R.noL, Option.map, true_and, and_true, false_and, and_false, ge_iff_le, gt_iff_lt, q_cast, false_imp_iff, true_imp_iff, implies_true, not_true_eq_false, Classical.not_not, q_ite_t, q_ite_f, true_or, or_true, or_self, or_false, false_or, Nat.lt_irrefl, Nat.one_mul, Nat.mul_one, decide_true, decide_false, decide_eq_true_eq, Bool.not_eq_true', Bool.not_eq_false', Bool.and_eq_true, Bool.or_eq_true, Bool.eq_false_iff, beq_iff_eq, bne_iff_ne, Nat.zero_add, q_add_zero, Nat.zero_mul, Nat.le_refl, q_ne, not_false_eq_true, q_toNat, sub_succ, sub_zero, sub_none, List.length_set, Nat.reduceAdd, Nat.reducePow, Int.reducePow, Nat.reduceMul, Nat.reduceSub, Nat.reduceLeDiff, Nat.reduceLT, Nat.reduceEqDiff, Int.reduceNeg, Int.reduceLT, Int.reduceLE, Int.reduceEq, Int.reduceNe, Int.reduceAdd, Int.reduceSub, Int.reduceMul, Int.reduceToNat, beq_self_eq_true, bne_self_eq_false, Int.reduceBEq, Int.reduceBNe, df16, TQ, rinG, adrG, onlyG, sizeG, capF, rszN, onlyC, Cap.cl]
  · exact close2 (P := fun B => K (V.s (S.b B)) h) hR
  · refine ⟨fun _ h => h, sz_law (P := fun B => K (V.s (S.b B)) h) ?_ ?_ ?_ ?_ ?_ hR⟩
    · intro ok; rw [if_pos ok, shR_u ok]; exact ⟨rfl, uRaw_pos ok⟩
    · intro ok; rw [if_neg ok]
    · intro ok; rw [if_pos ok, shR_u ok]; exact adr_iff
    · intro ok; rw [if_pos ok, shR_u ok, decide_eq_true (uRaw_pos ok)]; rfl
    · intro ok; rw [if_neg ok]; rfl
  · refine ⟨fun _ _ _ y => (inV_iff.1 y).1, fun _ h => h, fun _ _ _ _ y => (inV_iff.1 y).1, sz_law (P := fun B => K (V.s (S.b B)) h) ?_ ?_ ?_ ?_ ?_ hR⟩
    · intro ok; have ok := nOk_iff.1 ok; rw [if_pos ok, shR_n ok]; exact ⟨rfl, nRaw_pos ok⟩
    · intro ok; have ok := fun x => ok (nOk_iff.2 x); rw [if_neg ok]
    · intro ok; have ok := nOk_iff.1 ok; rw [if_pos ok, shR_n ok]; exact adr_iff
    · intro ok; have ok := nOk_iff.1 ok; rw [if_pos ok, shR_n ok, decide_eq_true (nRaw_pos ok)]; rfl
    · intro ok; have ok := fun x => ok (nOk_iff.2 x); rw [if_neg ok]; rfl
  · exact close3 (P := fun B => K (V.s (S.b B)) h) adr_iff rfl hR
  · exact close3 (P := fun B => K (V.s (S.b B)) h) adr_iff rfl hR
  · exact close3 (P := fun B => K (V.s (S.b B)) h) adr_iff rfl hR
  · exact close3 (P := fun B => K (V.s (S.b B)) h) adr_iff (table_eq _ _) hR
  · exact close3 (P := fun B => K (V.s (S.b B)) h) adr_iff (pool_eq _) hR
  · exact close3 (P := fun B => K (V.s (S.b B)) h) adr_iff (frame_eq _ _ _) hR
  · exact close3 (P := fun B => K (V.s (S.b B)) h) adr_iff rfl hR
  · have r := sz_law (P := fun B => K (V.s (S.b B)) h) (N' := if 1 ≤ b ∧ b ≤ 8 then shR 4 b else if b = 31 then 64 else 0) (q := adrV o (if 1 ≤ b ∧ b ≤ 8 then shR 4 b else if b = 31 then 64 else 0))
      (X' := if b = 31 then rinV d 0 3 else decide (0 < if 1 ≤ b ∧ b ≤ 8 then shR 4 b else if b = 31 then 64 else 0) && rinV d 0 (IntKind.i64.wrap ((if 1 ≤ b ∧ b ≤ 8 then shR 4 b else if b = 31 then 64 else 0).tdiv 4))) ?_ ?_ ?_ ?_ ?_ hR
    · exact ⟨fun _ h => h, r.1, fun z => ⟨fun p => ⟨((r.2 z).1 p).1, fun a => close1 (P := fun B => K (V.s (S.b B)) h) (((r.2 z).1 p).2 a)⟩, fun p => close1 (P := fun B => K (V.s (S.b B)) h) ((r.2 z).2 p)⟩⟩
    · intro ok
      rcases zrange.1 ok with rfl | ok
      · exact ⟨rfl, by decide⟩
      · rw [if_pos ok, shR_n ok, if_neg (by omega)]; exact ⟨rfl, nRaw_pos ok⟩
    · intro ok
      have ok := fun x => ok (zrange.2 x)
      rw [if_neg (fun x => ok (.inr x)), if_neg (fun x => ok (.inl x))]
    · intro ok
      rcases zrange.1 ok with rfl | ok
      · exact adr_iff
      · rw [if_pos ok, shR_n ok, if_neg (by omega)]; exact adr_iff
    · intro ok
      rcases zrange.1 ok with rfl | ok
      · rfl
      · rw [if_pos ok, shR_n ok, if_neg (by omega), if_neg (by omega), decide_eq_true (nRaw_pos ok), if_neg (by omega)]; rfl
    · intro ok
      have ok := fun x => ok (zrange.2 x)
      rw [if_neg (fun x => ok (.inr x)), if_neg (fun x => ok (.inl x)), if_neg (fun x => ok (.inl x))]; rfl
  · exact close2 (P := fun B => K (V.s (S.b B)) h) hR
  · exact close2 (P := fun B => K (V.s (S.b B)) h) hR
  · exact close2 (P := fun B => K (V.s (S.b B)) h) hR
  · exact ⟨fun _ => hR, fun _ => hR⟩
end Go.Proofs.Ythegocjfnjfkdaa
