/- TlbPlays: what its Go function answers. -/
import Derived.Test.YtkdamkfkgnnbeaaTA
import Derived.Test.YtkdamkfkgnnbeaaDT
import Derived.Test.YtkdamkfkgnnbeaaRows
import Derived.Test.YtkdamkfkgnnbeaaC0
namespace Go.Proofs.Ytkdamkfkgnnbeaa
open Go.D
set_option linter.all false
set_option maxRecDepth 100000
set_option maxHeartbeats 4000000

/-! ### the lines stay right -/
theorem okT_at {L : List Ln} (g : okT L) {i j : Nat} {x y : Ln} (hij : i ≠ j) (hx : L[i]? = some x) (hy : L[j]? = some y) : one x y := by
  obtain ⟨hi, rfl⟩ := List.getElem?_eq_some_iff.1 hx
  obtain ⟨hj, rfl⟩ := List.getElem?_eq_some_iff.1 hy
  rcases Nat.lt_or_gt_of_ne hij with h | h
  · exact List.pairwise_iff_getElem.1 g.one i j hi hj h
  · intro h1 h2
    have := List.pairwise_iff_getElem.1 g.one j i hj hi h h2 h1
    rw [← this, Bool.eq_iff_iff]
    simp only [Bool.and_eq_true, beq_iff_eq]
    omega

theorem okT_of {L : List Ln} (h8 : L.length = 8) (hok : okL L) (h : ∀ (i j : Nat) (x y : Ln), i ≠ j → L[i]? = some x → L[j]? = some y → one x y) : okT L :=
  ⟨h8, hok, List.pairwise_iff_getElem.2 fun i j hi hj hij => h i j _ _ (by omega) (List.getElem?_eq_getElem hi) (List.getElem?_eq_getElem hj)⟩

theorem okT_z : okT (List.replicate 8 Ln.z) := okT_of rfl (fun l hl => .inl (List.eq_of_mem_replicate hl)) fun i j x y _ hx _ h1 _ => by
  have := List.eq_of_mem_replicate (List.mem_of_getElem? hx)
  subst this; cases h1

theorem okT_set {L : List Ln} (g : okT L) {s : Nat} {l : Ln} (hl : l = Ln.z ∨ l.a ≠ 0) (h : ∀ (i : Nat) (x : Ln), i ≠ s → L[i]? = some x → l.nil = false → x.nil = false → (x.a == l.a && x.p == l.p) = false) : okT (L.set s l) := by
  refine okT_of (by simp [g.len]) (fun x hx => ?_) (fun i j x y hij hx hy => ?_)
  · rcases List.mem_or_eq_of_mem_set hx with h1 | h1
    · exact g.ok x h1
    · subst h1; exact hl
  · rw [List.getElem?_set] at hx hy
    split at hx
    · rename_i e; subst e
      split at hx
      · cases hx
        rw [if_neg hij] at hy
        intro h1 h2
        have := h j y (Ne.symm hij) hy h1 h2
        rw [← this, Bool.eq_iff_iff]
        simp only [Bool.and_eq_true, beq_iff_eq]
        omega
      · cases hx
    · split at hy
      · rename_i e; subst e
        split at hy
        · cases hy
          exact fun h1 h2 => h i x hij hx h2 h1
        · cases hy
      · exact okT_at g hij hx hy

theorem okT_fill {L : List Ln} (g : okT L) {l : Ln} {at_ : Int} (hf : fillB l at_ = true) : okT (L.set (slotF l at_ L) l) := by
  have hm : l.may = true ∧ 0 ≤ at_ ∧ at_ ≤ 7 := by simpa [fillB] using hf
  have ha : l.a ≠ 0 := by
    have := hm.1
    simp only [Ln.may, decide_eq_true_eq] at this
    omega
  refine okT_set g (.inr ha) fun i x hi hx h1 h2 => ?_
  have hmem := List.mem_of_getElem? hx
  rcases atF_spec l.a l.p L 0 with ⟨e, hn⟩ | ⟨j, hj, e, hh⟩
  · have := hn x hmem
    simpa [Ln.hit, h2] using this
  · rw [Nat.zero_add] at e
    have hs : slotF l at_ L = j := by
      have : ¬ ((j : Int) < 0) := by omega
      simp only [slotF, e, this, if_false, Int.toNat_natCast]
    rw [hs] at hi
    have hjn : L[j].nil = false ∧ L[j].a = l.a ∧ L[j].p = l.p := by simpa [Ln.hit] using hh
    have := okT_at g hi hx (List.getElem?_eq_getElem hj) h2 hjn.1
    rw [hjn.2.1, hjn.2.2] at this
    exact this

theorem okT_sieve {L : List Ln} (g : okT L) (q : Ln → Bool) : okT (sieve q L) := by
  refine okT_of (by simp [sieve, g.len]) (fun x hx => ?_) (fun i j x y hij hx hy => ?_)
  · obtain ⟨l, hl, rfl⟩ := List.mem_map.1 hx
    split
    · exact .inl rfl
    · exact g.ok l hl
  · unfold sieve at hx hy
    rw [List.getElem?_map] at hx hy
    obtain ⟨x', hx', rfl⟩ := Option.map_eq_some_iff.1 hx
    obtain ⟨y', hy', rfl⟩ := Option.map_eq_some_iff.1 hy
    intro h1 h2
    split at h1
    · cases h1
    · split at h2
      · cases h2
      · rename_i n1 n2
        rw [if_neg n1, if_neg n2]
        exact okT_at g hij hx' hy' h1 h2

theorem okT_step {L : List Ln} (g : okT L) (w a p x r at_ : Int) : okT (stepF w a p x r at_ L) := by
  unfold stepF
  split
  · split
    · rename_i hf; exact okT_fill g hf
    · exact g
  · split
    · split
      · exact okT_set g (.inl rfl) fun i x _ _ h1 _ => by cases h1
      · exact g
    · split
      · exact okT_sieve g _
      · split
        · exact okT_sieve g _
        · split
          · exact okT_sieve g _
          · exact g

/-! ### the script -/
structure Op where
  w : Int
  a : Int
  p : Int
  x : Int
  r : Int
  e : Int
def Op.c (o : Op) : List S := [.i .i64 o.w, .i .i64 o.a, .i .i64 o.p, .i .i64 o.x, .i .i64 o.r, .i .i64 o.e]
theorem Op.c_len (o : Op) : o.c.length = 6 := rfl
def Op.z : Op := ⟨0, 0, 0, 0, 0, 0⟩
theorem Op.at_ {L : List Op} {i : Nat} (h : i < L.length) : sub (arr Op.c L) (i * 6) 6 = [.i .i64 (nth Op.z L i).w, .i .i64 (nth Op.z L i).a, .i .i64 (nth Op.z L i).p, .i .i64 (nth Op.z L i).x, .i .i64 (nth Op.z L i).r, .i .i64 (nth Op.z L i).e] ∧
    sub (arr Op.c L) (i * 6 + 1) 4 = [.i .i64 (nth Op.z L i).a, .i .i64 (nth Op.z L i).p, .i .i64 (nth Op.z L i).x, .i .i64 (nth Op.z L i).r] ∧
    (arr Op.c L)[i * 6]? = some (.i .i64 (nth Op.z L i).w) ∧ (arr Op.c L)[i * 6 + 1]? = some (.i .i64 (nth Op.z L i).a) ∧ (arr Op.c L)[i * 6 + 2]? = some (.i .i64 (nth Op.z L i).p) ∧
    (arr Op.c L)[i * 6 + 3]? = some (.i .i64 (nth Op.z L i).x) ∧ (arr Op.c L)[i * 6 + 4]? = some (.i .i64 (nth Op.z L i).r) ∧ (arr Op.c L)[i * 6 + 5]? = some (.i .i64 (nth Op.z L i).e) ∧
    i * 6 + 6 ≤ (arr Op.c L).length ∧ i * 6 + 1 + 4 ≤ (arr Op.c L).length := by
  rw [nth_eq h]
  have hl := arr_length Op.c_len L
  have hs := arr_sub Op.c_len h
  refine ⟨hs, ?_, ?_, ?_, ?_, ?_, ?_, ?_, by omega, by omega⟩
  · have : sub (arr Op.c L) (i * 6 + 1) 4 = sub (sub (arr Op.c L) (i * 6) 6) 1 4 := by
      simp only [sub, List.drop_take, List.drop_drop, List.take_take]; rfl
    rw [this, hs]; rfl
  · rw [arr_get0 Op.c_len h (by omega)]; rfl
  all_goals (rw [arr_get Op.c_len h (by omega)]; rfl)

/-- A slice of such, as an argument. -/
def isOps (h : List Blk) (v : V) (L : List Op) : Prop :=
  (v = .s .ns ∧ L = []) ∨ ∃ k st room c, v = .s (.sl (.g k) 0 L.length c) ∧ h[k]? = some ⟨st, arr Op.c L, room⟩ ∧ (L.length ≠ 0 → st ≠ .dead)

def awake0G : List V → List Blk → Res
  | [], h => .ok (.s (.b true)) [] h
  | _, _ => .bad
theorem awake0_snd : Snd Try.prog 7 (FSpec.of awake0G) := awake_snd.cut fun args h K hc hS => by
  unfold FSpec.of awake0G at hS
  split at hS
  · exact cut_app (Nat.le_refl _) hc rfl hS
  · exact hS.elim

def GA : Tab := addT 7 awake0G (addT 8 newG (addT 14 playsG (addT 15 looksG noT)))
theorem GA_snd : GA.Snd Try.prog := addT_snd ok7 awake0_snd (addT_snd ok8 new_snd (addT_snd ok14 plays_snd (addT_snd ok15 looks_snd (noT_snd _))))

def scriptS : FSpec := fun args h K => ∃ v L, args = [v] ∧ isOps h v L ∧ L.length ≤ 9223372036854775807 ∧ ∀ h', K (.s (.b true)) h'

theorem plays_law_snd : Snd Try.prog 5 scriptS := (fwp_sound (Tab.snd_Γ GA_snd) mixed Try.func5 dc5).weaken fun args h K hc hS => by
  obtain ⟨v, Ls, rfl, hl, hn, hK⟩ := hS
  refine fwp_run (Tab.ok_Γ _) 300 ?_
  have e0 : (⟨.rw, [.i .i64 0, .i .i64 0, .i .i64 0, .i .i64 0, .i .i64 0, .i .i64 0, .i .i64 0, .i .i64 0, .i .i64 0, .i .i64 0, .i .i64 0, .i .i64 0, .i .i64 0, .i .i64 0, .i .i64 0, .i .i64 0, .i .i64 0, .i .i64 0, .i .i64 0, .i .i64 0, .i .i64 0, .i .i64 0, .i .i64 0, .i .i64 0, .i .i64 0, .i .i64 0, .i .i64 0, .i .i64 0, .i .i64 0, .i .i64 0, .i .i64 0, .i .i64 0], 32⟩ : Blk) = tlbB (List.replicate 8 Ln.z) := rfl
  have hcl : ∀ M : List Ln, clean (h.length + 1) (h ++ [tlbB M]) = true := fun M => clean_app hc (by omega) (by simp only [clean, List.all_cons, List.all_nil, Bool.and_true]; exact arr_ints _ (fun _ => rfl) M)
  have hren : ∀ (ρ : R → R) (M : List Ln), (arr Ln.c M).map (S.ren ρ) = arr Ln.c M := fun ρ M => by
    induction M with
    | nil => rfl
    | cons l M ih => simp only [arr, List.map_append, ih]; rfl
  have hrt : ∀ (ρ : R → R) (M : List Ln), Blk.ren ρ (tlbB M) = tlbB M := fun ρ M => by simp only [Blk.ren, tlbB, hren]
  have hne : ¬ h.length = h.length + 1 := by omega
  have g0 := okT_z
  rcases hl with ⟨rfl, rfl⟩ | ⟨k0, st, room, c0, rfl, hk0, hst⟩
  · simp (config := { maxSteps := 10000000 }) only [run_je, resume_leaf, resume_all, resume_bad, resume_res, resume_cond, resume_ob, join_leaf, join_ob1, join_ob2, obS_true, obS_false, zipC_nil, zipC_cons, jv_self, jv_b, jv_i, cond_ff, cond_tt, cond_ft, cond_tf, cond_same, run_zero, run_nil, run_blk, run_lp, run_gi0, run_gi, run_gig, run_q0, run_q, run_qg, run_skip, run_reg, run_drt, run_drq, cut_s, cut_0, run_drm, frames_nil, frames_q, frames_g, run_seq, run_cond, run_block, run_loop, run_exit, run_ret, cont_ok, cont_br, cont_ob, cont_call, cont_app, cont_bad, contG_ok, contG_br, contG_ob, contG_call, contG_app, contG_bad, contQ_ok, contQ_br, contQ_ob, contQ_call, contQ_callv, contQ_bad, contQ2_ok, contQ2_br, contQ2_ob, contQG_some, contQH_ok, contQH_br, contQH_ob, guard_b, guard_t, guardQ_b, guardQ_t, condV_b, exitV_some, callR_t, callR_f, callO_some, callO_none, callL_some, callL_none, into_ok, into_ob, into_br, unlend_ok, unlend_ob, unlend_br, addT, istep, pickR, ev_t, ev_k, tg_some, putD, bin1R, un1R, slcR, bnd, capsOf, fillP, put_nil, put_succ, put_zero, V.plain, V.cells, V.known, C.v, known_nil, known_cons, blk, setL, setH, eqS, eq1, cmpS, cmp1, isNil, popTo, killT, setT, leT, V.below, S.below, R.below, V.val, C.val, S.val, R.val, R.takes, vals, shows, unnamed, V.kill, V.names, C.names, S.names, R.names, List.map_cons, List.map_nil, q_all_cons, q_all_nil, List.set, q_get0, q_getS, q_getN, q_len_cons, q_len_nil, q_cons_app, q_nil_app, List.append_nil, List.append_assoc, List.length_append, app_get0, app_getn, app_set0, app_setn, List.replicate, ↓q_cond_t, ↓q_cond_f, Bool.and_true, Bool.true_and, Bool.and_false, Bool.false_and, Bool.or_true, Bool.true_or, Bool.or_false, Bool.false_or, Bool.not_true, Bool.not_false, if_true, if_false, Bool.false_eq_true, reduceCtorEq, holds_done, holds_obS, holds_all, holds_lp, holds_bad, holds_cond_eq, fin_ret, fin_nrm, finO_some, leave_eq, leaveB_true, rvals, rval_t, rval_c, rvT_s, rvT_agg, rvC, result, C.known, V.noL, C.noL, S.noL, R.noL, Option.map, true_and, and_true, false_and, and_false, ge_iff_le, gt_iff_lt, q_cast, false_imp_iff, true_imp_iff, implies_true, not_true_eq_false, Classical.not_not, q_ite_t, q_ite_f, true_or, or_true, or_self, or_false, false_or, Nat.lt_irrefl, Nat.one_mul, Nat.mul_one, decide_true, decide_false, decide_eq_true_eq, Bool.not_eq_true', Bool.not_eq_false', Bool.and_eq_true, Bool.or_eq_true, Bool.eq_false_iff, beq_iff_eq, bne_iff_ne, Nat.zero_add, q_add_zero, Nat.zero_mul, Nat.le_refl, q_ne, not_false_eq_true, q_toNat, sub_succ, sub_zero, sub_none, List.length_set, Nat.reduceAdd, Nat.reducePow, Int.reducePow, Nat.reduceMul, Nat.reduceSub, Nat.reduceLeDiff, Nat.reduceLT, Nat.reduceEqDiff, Int.reduceNeg, Int.reduceLT, Int.reduceLE, Int.reduceEq, Int.reduceNe, Int.reduceAdd, Int.reduceSub, Int.reduceMul, Int.reduceToNat, beq_self_eq_true, bne_self_eq_false, Int.reduceBEq, Int.reduceBNe, df5, GA, awake0G, newG]
    rw [e0]
    refine loop_rule (α := Unit) [] (fun _ => []) (fun _ => [tlbB (List.replicate 8 Ln.z)]) (fun _ => h ++ [tlbB (List.replicate 8 Ln.z)]) (fun _ => True) (fun _ => 0) () trivial .refl ?_
    rintro X _ _ _
    have h8 := g0.len
    refine run_sound (Tab.ok_Γ _) 200 _ _ _ _ ?_
    simp (config := { maxSteps := 10000000 }) only [run_je, resume_leaf, resume_all, resume_bad, resume_res, resume_cond, resume_ob, join_leaf, join_ob1, join_ob2, obS_true, obS_false, zipC_nil, zipC_cons, jv_self, jv_b, jv_i, cond_ff, cond_tt, cond_ft, cond_tf, cond_same, run_zero, run_nil, run_blk, run_lp, run_gi0, run_gi, run_gig, run_q0, run_q, run_qg, run_skip, run_reg, run_drt, run_drq, cut_s, cut_0, run_drm, frames_nil, frames_q, frames_g, run_seq, run_cond, run_block, run_loop, run_exit, run_ret, cont_ok, cont_br, cont_ob, cont_call, cont_app, cont_bad, contG_ok, contG_br, contG_ob, contG_call, contG_app, contG_bad, contQ_ok, contQ_br, contQ_ob, contQ_call, contQ_callv, contQ_bad, contQ2_ok, contQ2_br, contQ2_ob, contQG_some, contQH_ok, contQH_br, contQH_ob, guard_b, guard_t, guardQ_b, guardQ_t, condV_b, exitV_some, callR_t, callR_f, callO_some, callO_none, callL_some, callL_none, into_ok, into_ob, into_br, unlend_ok, unlend_ob, unlend_br, addT, istep, pickR, ev_t, ev_k, tg_some, putD, bin1R, un1R, slcR, bnd, capsOf, fillP, put_nil, put_succ, put_zero, V.plain, V.cells, V.known, C.v, known_nil, known_cons, blk, setL, setH, eqS, eq1, cmpS, cmp1, isNil, popTo, killT, setT, leT, V.below, S.below, R.below, V.val, C.val, S.val, R.val, R.takes, vals, shows, unnamed, V.kill, V.names, C.names, S.names, R.names, List.map_cons, List.map_nil, q_all_cons, q_all_nil, List.set, q_get0, q_getS, q_getN, q_len_cons, q_len_nil, q_cons_app, q_nil_app, List.append_nil, List.append_assoc, List.length_append, app_get0, app_getn, app_set0, app_setn, List.replicate, ↓q_cond_t, ↓q_cond_f, Bool.and_true, Bool.true_and, Bool.and_false, Bool.false_and, Bool.or_true, Bool.true_or, Bool.or_false, Bool.false_or, Bool.not_true, Bool.not_false, if_true, if_false, Bool.false_eq_true, reduceCtorEq, holds_done, holds_obS, holds_all, holds_lp, holds_bad, holds_cond_eq, fin_ret, fin_nrm, finO_some, leave_eq, leaveB_true, rvals, rval_t, rval_c, rvT_s, rvT_agg, rvC, result, C.known, V.noL, C.noL, S.noL, R.noL, Option.map, true_and, and_true, false_and, and_false, ge_iff_le, gt_iff_lt, q_cast, false_imp_iff, true_imp_iff, implies_true, not_true_eq_false, Classical.not_not, q_ite_t, q_ite_f, true_or, or_true, or_self, or_false, false_or, Nat.lt_irrefl, Nat.one_mul, Nat.mul_one, decide_true, decide_false, decide_eq_true_eq, Bool.not_eq_true', Bool.not_eq_false', Bool.and_eq_true, Bool.or_eq_true, Bool.eq_false_iff, beq_iff_eq, bne_iff_ne, Nat.zero_add, q_add_zero, Nat.zero_mul, Nat.le_refl, q_ne, not_false_eq_true, q_toNat, sub_succ, sub_zero, sub_none, List.length_set, Nat.reduceAdd, Nat.reducePow, Int.reducePow, Nat.reduceMul, Nat.reduceSub, Nat.reduceLeDiff, Nat.reduceLT, Nat.reduceEqDiff, Int.reduceNeg, Int.reduceLT, Int.reduceLE, Int.reduceEq, Int.reduceNe, Int.reduceAdd, Int.reduceSub, Int.reduceMul, Int.reduceToNat, beq_self_eq_true, bne_self_eq_false, Int.reduceBEq, Int.reduceBNe, Int.lt_irrefl, GA, playsG, looksG, R.lend, R.unlend, S.ren, C.ren, V.ren, app_taken, app_dropn, app_take0, app_drop0, List.take_succ_cons, List.take_zero, List.drop_succ_cons, List.drop_zero, Nat.not_lt_zero, Nat.lt_irrefl, Nat.add_sub_cancel_left, Nat.not_lt, Nat.le_add_right, hrt, hcl, isTlb_tlbB, tlbB_cells, dec_arr, h8, g0, hne]
    exact hK _
  · have hkl : k0 < h.length := (List.getElem?_eq_some_iff.1 hk0).1
    have hkr : ∀ r, (h ++ r)[k0]? = some ⟨st, arr Op.c Ls, room⟩ := fun r => by rw [app_getl hkl, hk0]
    by_cases hb : ((2147483647 : Int) < (Ls.length : Int))
    · simp (config := { maxSteps := 10000000 }) only [run_je, resume_leaf, resume_all, resume_bad, resume_res, resume_cond, resume_ob, join_leaf, join_ob1, join_ob2, obS_true, obS_false, zipC_nil, zipC_cons, jv_self, jv_b, jv_i, cond_ff, cond_tt, cond_ft, cond_tf, cond_same, run_zero, run_nil, run_blk, run_lp, run_gi0, run_gi, run_gig, run_q0, run_q, run_qg, run_skip, run_reg, run_drt, run_drq, cut_s, cut_0, run_drm, frames_nil, frames_q, frames_g, run_seq, run_cond, run_block, run_loop, run_exit, run_ret, cont_ok, cont_br, cont_ob, cont_call, cont_app, cont_bad, contG_ok, contG_br, contG_ob, contG_call, contG_app, contG_bad, contQ_ok, contQ_br, contQ_ob, contQ_call, contQ_callv, contQ_bad, contQ2_ok, contQ2_br, contQ2_ob, contQG_some, contQH_ok, contQH_br, contQH_ob, guard_b, guard_t, guardQ_b, guardQ_t, condV_b, exitV_some, callR_t, callR_f, callO_some, callO_none, callL_some, callL_none, into_ok, into_ob, into_br, unlend_ok, unlend_ob, unlend_br, addT, istep, pickR, ev_t, ev_k, tg_some, putD, bin1R, un1R, slcR, bnd, capsOf, fillP, put_nil, put_succ, put_zero, V.plain, V.cells, V.known, C.v, known_nil, known_cons, blk, setL, setH, eqS, eq1, cmpS, cmp1, isNil, popTo, killT, setT, leT, V.below, S.below, R.below, V.val, C.val, S.val, R.val, R.takes, vals, shows, unnamed, V.kill, V.names, C.names, S.names, R.names, List.map_cons, List.map_nil, q_all_cons, q_all_nil, List.set, q_get0, q_getS, q_getN, q_len_cons, q_len_nil, q_cons_app, q_nil_app, List.append_nil, List.append_assoc, List.length_append, app_get0, app_getn, app_set0, app_setn, List.replicate, ↓q_cond_t, ↓q_cond_f, Bool.and_true, Bool.true_and, Bool.and_false, Bool.false_and, Bool.or_true, Bool.true_or, Bool.or_false, Bool.false_or, Bool.not_true, Bool.not_false, if_true, if_false, Bool.false_eq_true, reduceCtorEq, holds_done, holds_obS, holds_all, holds_lp, holds_bad, holds_cond_eq, fin_ret, fin_nrm, finO_some, leave_eq, leaveB_true, rvals, rval_t, rval_c, rvT_s, rvT_agg, rvC, result, C.known, V.noL, C.noL, S.noL, R.noL, Option.map, true_and, and_true, false_and, and_false, ge_iff_le, gt_iff_lt, q_cast, false_imp_iff, true_imp_iff, implies_true, not_true_eq_false, Classical.not_not, q_ite_t, q_ite_f, true_or, or_true, or_self, or_false, false_or, Nat.lt_irrefl, Nat.one_mul, Nat.mul_one, decide_true, decide_false, decide_eq_true_eq, Bool.not_eq_true', Bool.not_eq_false', Bool.and_eq_true, Bool.or_eq_true, Bool.eq_false_iff, beq_iff_eq, bne_iff_ne, Nat.zero_add, q_add_zero, Nat.zero_mul, Nat.le_refl, q_ne, not_false_eq_true, q_toNat, sub_succ, sub_zero, sub_none, List.length_set, Nat.reduceAdd, Nat.reducePow, Int.reducePow, Nat.reduceMul, Nat.reduceSub, Nat.reduceLeDiff, Nat.reduceLT, Nat.reduceEqDiff, Int.reduceNeg, Int.reduceLT, Int.reduceLE, Int.reduceEq, Int.reduceNe, Int.reduceAdd, Int.reduceSub, Int.reduceMul, Int.reduceToNat, beq_self_eq_true, bne_self_eq_false, Int.reduceBEq, Int.reduceBNe, df5, hb]
      exact hK _
    · simp (config := { maxSteps := 10000000 }) only [run_je, resume_leaf, resume_all, resume_bad, resume_res, resume_cond, resume_ob, join_leaf, join_ob1, join_ob2, obS_true, obS_false, zipC_nil, zipC_cons, jv_self, jv_b, jv_i, cond_ff, cond_tt, cond_ft, cond_tf, cond_same, run_zero, run_nil, run_blk, run_lp, run_gi0, run_gi, run_gig, run_q0, run_q, run_qg, run_skip, run_reg, run_drt, run_drq, cut_s, cut_0, run_drm, frames_nil, frames_q, frames_g, run_seq, run_cond, run_block, run_loop, run_exit, run_ret, cont_ok, cont_br, cont_ob, cont_call, cont_app, cont_bad, contG_ok, contG_br, contG_ob, contG_call, contG_app, contG_bad, contQ_ok, contQ_br, contQ_ob, contQ_call, contQ_callv, contQ_bad, contQ2_ok, contQ2_br, contQ2_ob, contQG_some, contQH_ok, contQH_br, contQH_ob, guard_b, guard_t, guardQ_b, guardQ_t, condV_b, exitV_some, callR_t, callR_f, callO_some, callO_none, callL_some, callL_none, into_ok, into_ob, into_br, unlend_ok, unlend_ob, unlend_br, addT, istep, pickR, ev_t, ev_k, tg_some, putD, bin1R, un1R, slcR, bnd, capsOf, fillP, put_nil, put_succ, put_zero, V.plain, V.cells, V.known, C.v, known_nil, known_cons, blk, setL, setH, eqS, eq1, cmpS, cmp1, isNil, popTo, killT, setT, leT, V.below, S.below, R.below, V.val, C.val, S.val, R.val, R.takes, vals, shows, unnamed, V.kill, V.names, C.names, S.names, R.names, List.map_cons, List.map_nil, q_all_cons, q_all_nil, List.set, q_get0, q_getS, q_getN, q_len_cons, q_len_nil, q_cons_app, q_nil_app, List.append_nil, List.append_assoc, List.length_append, app_get0, app_getn, app_set0, app_setn, List.replicate, ↓q_cond_t, ↓q_cond_f, Bool.and_true, Bool.true_and, Bool.and_false, Bool.false_and, Bool.or_true, Bool.true_or, Bool.or_false, Bool.false_or, Bool.not_true, Bool.not_false, if_true, if_false, Bool.false_eq_true, reduceCtorEq, holds_done, holds_obS, holds_all, holds_lp, holds_bad, holds_cond_eq, fin_ret, fin_nrm, finO_some, leave_eq, leaveB_true, rvals, rval_t, rval_c, rvT_s, rvT_agg, rvC, result, C.known, V.noL, C.noL, S.noL, R.noL, Option.map, true_and, and_true, false_and, and_false, ge_iff_le, gt_iff_lt, q_cast, false_imp_iff, true_imp_iff, implies_true, not_true_eq_false, Classical.not_not, q_ite_t, q_ite_f, true_or, or_true, or_self, or_false, false_or, Nat.lt_irrefl, Nat.one_mul, Nat.mul_one, decide_true, decide_false, decide_eq_true_eq, Bool.not_eq_true', Bool.not_eq_false', Bool.and_eq_true, Bool.or_eq_true, Bool.eq_false_iff, beq_iff_eq, bne_iff_ne, Nat.zero_add, q_add_zero, Nat.zero_mul, Nat.le_refl, q_ne, not_false_eq_true, q_toNat, sub_succ, sub_zero, sub_none, List.length_set, Nat.reduceAdd, Nat.reducePow, Int.reducePow, Nat.reduceMul, Nat.reduceSub, Nat.reduceLeDiff, Nat.reduceLT, Nat.reduceEqDiff, Int.reduceNeg, Int.reduceLT, Int.reduceLE, Int.reduceEq, Int.reduceNe, Int.reduceAdd, Int.reduceSub, Int.reduceMul, Int.reduceToNat, beq_self_eq_true, bne_self_eq_false, Int.reduceBEq, Int.reduceBNe, df5, hb, GA, awake0G, newG]
      rw [e0]
      refine loop_rule (α := Nat × List Ln) [2, 6, 7, 8, 19, 20, 21, 22, 23, 24, 25, 26, 27, 28, 29, 30, 31, 32, 33, 34, 35, 36, 37, 38, 39, 40] (fun y => [(6, .s (.i .i64 y.1))]) (fun y => [tlbB y.2]) (fun y => h ++ [tlbB y.2])
        (fun y => y.1 ≤ Ls.length ∧ okT y.2) (fun y => Ls.length - y.1) (0, List.replicate 8 Ln.z) ⟨Nat.zero_le _, okT_z⟩ ?_ ?_
      · refine Wk.same rfl rfl ?_
        simp (config := { maxSteps := 10000000 }) only [run_je, resume_leaf, resume_all, resume_bad, resume_res, resume_cond, resume_ob, join_leaf, join_ob1, join_ob2, obS_true, obS_false, zipC_nil, zipC_cons, jv_self, jv_b, jv_i, cond_ff, cond_tt, cond_ft, cond_tf, cond_same, run_zero, run_nil, run_blk, run_lp, run_gi0, run_gi, run_gig, run_q0, run_q, run_qg, run_skip, run_reg, run_drt, run_drq, cut_s, cut_0, run_drm, frames_nil, frames_q, frames_g, run_seq, run_cond, run_block, run_loop, run_exit, run_ret, cont_ok, cont_br, cont_ob, cont_call, cont_app, cont_bad, contG_ok, contG_br, contG_ob, contG_call, contG_app, contG_bad, contQ_ok, contQ_br, contQ_ob, contQ_call, contQ_callv, contQ_bad, contQ2_ok, contQ2_br, contQ2_ob, contQG_some, contQH_ok, contQH_br, contQH_ob, guard_b, guard_t, guardQ_b, guardQ_t, condV_b, exitV_some, callR_t, callR_f, callO_some, callO_none, callL_some, callL_none, into_ok, into_ob, into_br, unlend_ok, unlend_ob, unlend_br, addT, istep, pickR, ev_t, ev_k, tg_some, putD, bin1R, un1R, slcR, bnd, capsOf, fillP, put_nil, put_succ, put_zero, V.plain, V.cells, V.known, C.v, known_nil, known_cons, blk, setL, setH, eqS, eq1, cmpS, cmp1, isNil, popTo, killT, setT, leT, V.below, S.below, R.below, V.val, C.val, S.val, R.val, R.takes, vals, shows, unnamed, V.kill, V.names, C.names, S.names, R.names, List.map_cons, List.map_nil, q_all_cons, q_all_nil, List.set, q_get0, q_getS, q_getN, q_len_cons, q_len_nil, q_cons_app, q_nil_app, List.append_nil, List.append_assoc, List.length_append, app_get0, app_getn, app_set0, app_setn, List.replicate, ↓q_cond_t, ↓q_cond_f, Bool.and_true, Bool.true_and, Bool.and_false, Bool.false_and, Bool.or_true, Bool.true_or, Bool.or_false, Bool.false_or, Bool.not_true, Bool.not_false, if_true, if_false, Bool.false_eq_true, reduceCtorEq, holds_done, holds_obS, holds_all, holds_lp, holds_bad, holds_cond_eq, fin_ret, fin_nrm, finO_some, leave_eq, leaveB_true, rvals, rval_t, rval_c, rvT_s, rvT_agg, rvC, result, C.known, V.noL, C.noL, S.noL, R.noL, Option.map, true_and, and_true, false_and, and_false, ge_iff_le, gt_iff_lt, q_cast, false_imp_iff, true_imp_iff, implies_true, not_true_eq_false, Classical.not_not, q_ite_t, q_ite_f, true_or, or_true, or_self, or_false, false_or, Nat.lt_irrefl, Nat.one_mul, Nat.mul_one, decide_true, decide_false, decide_eq_true_eq, Bool.not_eq_true', Bool.not_eq_false', Bool.and_eq_true, Bool.or_eq_true, Bool.eq_false_iff, beq_iff_eq, bne_iff_ne, Nat.zero_add, q_add_zero, Nat.zero_mul, Nat.le_refl, q_ne, not_false_eq_true, q_toNat, sub_succ, sub_zero, sub_none, List.length_set, Nat.reduceAdd, Nat.reducePow, Int.reducePow, Nat.reduceMul, Nat.reduceSub, Nat.reduceLeDiff, Nat.reduceLT, Nat.reduceEqDiff, Int.reduceNeg, Int.reduceLT, Int.reduceLE, Int.reduceEq, Int.reduceNe, Int.reduceAdd, Int.reduceSub, Int.reduceMul, Int.reduceToNat, beq_self_eq_true, bne_self_eq_false, Int.reduceBEq, Int.reduceBNe, Int.natCast_zero]
      · rintro X ⟨i, L⟩ ⟨hi, g⟩ IH
        simp only at hi g ⊢
        rcases Nat.lt_or_ge i Ls.length with hlt | hge
        · have F := idx hlt (by omega)
          have E := Op.at_ hlt
          have hst := hst (by omega)
          have h8 := g.len
          refine run_sound (Tab.ok_Γ _) 200 _ _ _ _ ?_
          simp (config := { maxSteps := 10000000 }) only [run_je, resume_leaf, resume_all, resume_bad, resume_res, resume_cond, resume_ob, join_leaf, join_ob1, join_ob2, obS_true, obS_false, zipC_nil, zipC_cons, jv_self, jv_b, jv_i, cond_ff, cond_tt, cond_ft, cond_tf, cond_same, run_zero, run_nil, run_blk, run_lp, run_gi0, run_gi, run_gig, run_q0, run_q, run_qg, run_skip, run_reg, run_drt, run_drq, cut_s, cut_0, run_drm, frames_nil, frames_q, frames_g, run_seq, run_cond, run_block, run_loop, run_exit, run_ret, cont_ok, cont_br, cont_ob, cont_call, cont_app, cont_bad, contG_ok, contG_br, contG_ob, contG_call, contG_app, contG_bad, contQ_ok, contQ_br, contQ_ob, contQ_call, contQ_callv, contQ_bad, contQ2_ok, contQ2_br, contQ2_ob, contQG_some, contQH_ok, contQH_br, contQH_ob, guard_b, guard_t, guardQ_b, guardQ_t, condV_b, exitV_some, callR_t, callR_f, callO_some, callO_none, callL_some, callL_none, into_ok, into_ob, into_br, unlend_ok, unlend_ob, unlend_br, addT, istep, pickR, ev_t, ev_k, tg_some, putD, bin1R, un1R, slcR, bnd, capsOf, fillP, put_nil, put_succ, put_zero, V.plain, V.cells, V.known, C.v, known_nil, known_cons, blk, setL, setH, eqS, eq1, cmpS, cmp1, isNil, popTo, killT, setT, leT, V.below, S.below, R.below, V.val, C.val, S.val, R.val, R.takes, vals, shows, unnamed, V.kill, V.names, C.names, S.names, R.names, List.map_cons, List.map_nil, q_all_cons, q_all_nil, List.set, q_get0, q_getS, q_getN, q_len_cons, q_len_nil, q_cons_app, q_nil_app, List.append_nil, List.append_assoc, List.length_append, app_get0, app_getn, app_set0, app_setn, List.replicate, ↓q_cond_t, ↓q_cond_f, Bool.and_true, Bool.true_and, Bool.and_false, Bool.false_and, Bool.or_true, Bool.true_or, Bool.or_false, Bool.false_or, Bool.not_true, Bool.not_false, if_true, if_false, Bool.false_eq_true, reduceCtorEq, holds_done, holds_obS, holds_all, holds_lp, holds_bad, holds_cond_eq, fin_ret, fin_nrm, finO_some, leave_eq, leaveB_true, rvals, rval_t, rval_c, rvT_s, rvT_agg, rvC, result, C.known, V.noL, C.noL, S.noL, R.noL, Option.map, true_and, and_true, false_and, and_false, ge_iff_le, gt_iff_lt, q_cast, false_imp_iff, true_imp_iff, implies_true, not_true_eq_false, Classical.not_not, q_ite_t, q_ite_f, true_or, or_true, or_self, or_false, false_or, Nat.lt_irrefl, Nat.one_mul, Nat.mul_one, decide_true, decide_false, decide_eq_true_eq, Bool.not_eq_true', Bool.not_eq_false', Bool.and_eq_true, Bool.or_eq_true, Bool.eq_false_iff, beq_iff_eq, bne_iff_ne, Nat.zero_add, q_add_zero, Nat.zero_mul, Nat.le_refl, q_ne, not_false_eq_true, q_toNat, sub_succ, sub_zero, sub_none, List.length_set, Nat.reduceAdd, Nat.reducePow, Int.reducePow, Nat.reduceMul, Nat.reduceSub, Nat.reduceLeDiff, Nat.reduceLT, Nat.reduceEqDiff, Int.reduceNeg, Int.reduceLT, Int.reduceLE, Int.reduceEq, Int.reduceNe, Int.reduceAdd, Int.reduceSub, Int.reduceMul, Int.reduceToNat, beq_self_eq_true, bne_self_eq_false, Int.reduceBEq, Int.reduceBNe, F, E, hkr, hst, GA, playsG, looksG, R.lend, R.unlend, S.ren, C.ren, V.ren, app_taken, app_dropn, app_take0, app_drop0, List.take_succ_cons, List.take_zero, List.drop_succ_cons, List.drop_zero, Nat.not_lt_zero, Nat.lt_irrefl, Nat.add_sub_cancel_left, Nat.not_lt, Nat.le_add_right, hrt, hcl, isTlb_tlbB, tlbB_cells, dec_arr, h8, g, hne]
          have g' := okT_step g (nth Op.z Ls i).w (nth Op.z Ls i).a (nth Op.z Ls i).p (nth Op.z Ls i).x (nth Op.z Ls i).r (nth Op.z Ls i).e
          refine ⟨g'.len, IH (i + 1, _) _ (by simp only; omega) ⟨by simp only; omega, g'⟩ (Wk.same rfl rfl ?_)⟩
          simp (config := { maxSteps := 10000000 }) only [run_je, resume_leaf, resume_all, resume_bad, resume_res, resume_cond, resume_ob, join_leaf, join_ob1, join_ob2, obS_true, obS_false, zipC_nil, zipC_cons, jv_self, jv_b, jv_i, cond_ff, cond_tt, cond_ft, cond_tf, cond_same, run_zero, run_nil, run_blk, run_lp, run_gi0, run_gi, run_gig, run_q0, run_q, run_qg, run_skip, run_reg, run_drt, run_drq, cut_s, cut_0, run_drm, frames_nil, frames_q, frames_g, run_seq, run_cond, run_block, run_loop, run_exit, run_ret, cont_ok, cont_br, cont_ob, cont_call, cont_app, cont_bad, contG_ok, contG_br, contG_ob, contG_call, contG_app, contG_bad, contQ_ok, contQ_br, contQ_ob, contQ_call, contQ_callv, contQ_bad, contQ2_ok, contQ2_br, contQ2_ob, contQG_some, contQH_ok, contQH_br, contQH_ob, guard_b, guard_t, guardQ_b, guardQ_t, condV_b, exitV_some, callR_t, callR_f, callO_some, callO_none, callL_some, callL_none, into_ok, into_ob, into_br, unlend_ok, unlend_ob, unlend_br, addT, istep, pickR, ev_t, ev_k, tg_some, putD, bin1R, un1R, slcR, bnd, capsOf, fillP, put_nil, put_succ, put_zero, V.plain, V.cells, V.known, C.v, known_nil, known_cons, blk, setL, setH, eqS, eq1, cmpS, cmp1, isNil, popTo, killT, setT, leT, V.below, S.below, R.below, V.val, C.val, S.val, R.val, R.takes, vals, shows, unnamed, V.kill, V.names, C.names, S.names, R.names, List.map_cons, List.map_nil, q_all_cons, q_all_nil, List.set, q_get0, q_getS, q_getN, q_len_cons, q_len_nil, q_cons_app, q_nil_app, List.append_nil, List.append_assoc, List.length_append, app_get0, app_getn, app_set0, app_setn, List.replicate, ↓q_cond_t, ↓q_cond_f, Bool.and_true, Bool.true_and, Bool.and_false, Bool.false_and, Bool.or_true, Bool.true_or, Bool.or_false, Bool.false_or, Bool.not_true, Bool.not_false, if_true, if_false, Bool.false_eq_true, reduceCtorEq, holds_done, holds_obS, holds_all, holds_lp, holds_bad, holds_cond_eq, fin_ret, fin_nrm, finO_some, leave_eq, leaveB_true, rvals, rval_t, rval_c, rvT_s, rvT_agg, rvC, result, C.known, V.noL, C.noL, S.noL, R.noL, Option.map, true_and, and_true, false_and, and_false, ge_iff_le, gt_iff_lt, q_cast, false_imp_iff, true_imp_iff, implies_true, not_true_eq_false, Classical.not_not, q_ite_t, q_ite_f, true_or, or_true, or_self, or_false, false_or, Nat.lt_irrefl, Nat.one_mul, Nat.mul_one, decide_true, decide_false, decide_eq_true_eq, Bool.not_eq_true', Bool.not_eq_false', Bool.and_eq_true, Bool.or_eq_true, Bool.eq_false_iff, beq_iff_eq, bne_iff_ne, Nat.zero_add, q_add_zero, Nat.zero_mul, Nat.le_refl, q_ne, not_false_eq_true, q_toNat, sub_succ, sub_zero, sub_none, List.length_set, Nat.reduceAdd, Nat.reducePow, Int.reducePow, Nat.reduceMul, Nat.reduceSub, Nat.reduceLeDiff, Nat.reduceLT, Nat.reduceEqDiff, Int.reduceNeg, Int.reduceLT, Int.reduceLE, Int.reduceEq, Int.reduceNe, Int.reduceAdd, Int.reduceSub, Int.reduceMul, Int.reduceToNat, beq_self_eq_true, bne_self_eq_false, Int.reduceBEq, Int.reduceBNe]
        · have : i = Ls.length := by omega
          subst this
          have h8 := g.len
          refine run_sound (Tab.ok_Γ _) 200 _ _ _ _ ?_
          simp (config := { maxSteps := 10000000 }) only [run_je, resume_leaf, resume_all, resume_bad, resume_res, resume_cond, resume_ob, join_leaf, join_ob1, join_ob2, obS_true, obS_false, zipC_nil, zipC_cons, jv_self, jv_b, jv_i, cond_ff, cond_tt, cond_ft, cond_tf, cond_same, run_zero, run_nil, run_blk, run_lp, run_gi0, run_gi, run_gig, run_q0, run_q, run_qg, run_skip, run_reg, run_drt, run_drq, cut_s, cut_0, run_drm, frames_nil, frames_q, frames_g, run_seq, run_cond, run_block, run_loop, run_exit, run_ret, cont_ok, cont_br, cont_ob, cont_call, cont_app, cont_bad, contG_ok, contG_br, contG_ob, contG_call, contG_app, contG_bad, contQ_ok, contQ_br, contQ_ob, contQ_call, contQ_callv, contQ_bad, contQ2_ok, contQ2_br, contQ2_ob, contQG_some, contQH_ok, contQH_br, contQH_ob, guard_b, guard_t, guardQ_b, guardQ_t, condV_b, exitV_some, callR_t, callR_f, callO_some, callO_none, callL_some, callL_none, into_ok, into_ob, into_br, unlend_ok, unlend_ob, unlend_br, addT, istep, pickR, ev_t, ev_k, tg_some, putD, bin1R, un1R, slcR, bnd, capsOf, fillP, put_nil, put_succ, put_zero, V.plain, V.cells, V.known, C.v, known_nil, known_cons, blk, setL, setH, eqS, eq1, cmpS, cmp1, isNil, popTo, killT, setT, leT, V.below, S.below, R.below, V.val, C.val, S.val, R.val, R.takes, vals, shows, unnamed, V.kill, V.names, C.names, S.names, R.names, List.map_cons, List.map_nil, q_all_cons, q_all_nil, List.set, q_get0, q_getS, q_getN, q_len_cons, q_len_nil, q_cons_app, q_nil_app, List.append_nil, List.append_assoc, List.length_append, app_get0, app_getn, app_set0, app_setn, List.replicate, ↓q_cond_t, ↓q_cond_f, Bool.and_true, Bool.true_and, Bool.and_false, Bool.false_and, Bool.or_true, Bool.true_or, Bool.or_false, Bool.false_or, Bool.not_true, Bool.not_false, if_true, if_false, Bool.false_eq_true, reduceCtorEq, holds_done, holds_obS, holds_all, holds_lp, holds_bad, holds_cond_eq, fin_ret, fin_nrm, finO_some, leave_eq, leaveB_true, rvals, rval_t, rval_c, rvT_s, rvT_agg, rvC, result, C.known, V.noL, C.noL, S.noL, R.noL, Option.map, true_and, and_true, false_and, and_false, ge_iff_le, gt_iff_lt, q_cast, false_imp_iff, true_imp_iff, implies_true, not_true_eq_false, Classical.not_not, q_ite_t, q_ite_f, true_or, or_true, or_self, or_false, false_or, Nat.lt_irrefl, Nat.one_mul, Nat.mul_one, decide_true, decide_false, decide_eq_true_eq, Bool.not_eq_true', Bool.not_eq_false', Bool.and_eq_true, Bool.or_eq_true, Bool.eq_false_iff, beq_iff_eq, bne_iff_ne, Nat.zero_add, q_add_zero, Nat.zero_mul, Nat.le_refl, q_ne, not_false_eq_true, q_toNat, sub_succ, sub_zero, sub_none, List.length_set, Nat.reduceAdd, Nat.reducePow, Int.reducePow, Nat.reduceMul, Nat.reduceSub, Nat.reduceLeDiff, Nat.reduceLT, Nat.reduceEqDiff, Int.reduceNeg, Int.reduceLT, Int.reduceLE, Int.reduceEq, Int.reduceNe, Int.reduceAdd, Int.reduceSub, Int.reduceMul, Int.reduceToNat, beq_self_eq_true, bne_self_eq_false, Int.reduceBEq, Int.reduceBNe, Int.lt_irrefl, GA, playsG, looksG, R.lend, R.unlend, S.ren, C.ren, V.ren, app_taken, app_dropn, app_take0, app_drop0, List.take_succ_cons, List.take_zero, List.drop_succ_cons, List.drop_zero, Nat.not_lt_zero, Nat.lt_irrefl, Nat.add_sub_cancel_left, Nat.not_lt, Nat.le_add_right, hrt, hcl, isTlb_tlbB, tlbB_cells, dec_arr, h8, g, hne]
          exact hK _

theorem isOps_of {h : List Blk} {s : S} (H : hasT h (.slice [.int .i64, .int .i64, .int .i64, .int .i64, .int .i64, .int .i64]) s) : ∃ L, isOps h (.s s) L ∧ L.length ≤ maxLen := by
  have hop : ∀ ss, hasTs h [.int .i64, .int .i64, .int .i64, .int .i64, .int .i64, .int .i64] ss → ∃ o : Op, ss = o.c := fun ss H => by
    match ss, H with
    | [a, b, c, d, e, f], H =>
      obtain ⟨⟨n1, rfl, _⟩, ⟨n2, rfl, _⟩, ⟨n3, rfl, _⟩, ⟨n4, rfl, _⟩, ⟨n5, rfl, _⟩, ⟨n6, rfl, _⟩, _⟩ := H
      exact ⟨⟨n1, n2, n3, n4, n5, n6⟩, rfl⟩
    | [], H => exact H.elim
    | [_], H => exact H.2.elim
    | [_, _], H => exact H.2.2.elim
    | [_, _, _], H => exact H.2.2.2.elim
    | [_, _, _, _], H => exact H.2.2.2.2.elim
    | [_, _, _, _, _], H => exact H.2.2.2.2.2.elim
    | _ :: _ :: _ :: _ :: _ :: _ :: _ :: _, H => exact H.2.2.2.2.2.2.elim
  rcases H with rfl | ⟨j, n, c, E, st, room, rfl, h1, h2, h3, h4, h7, _, h5⟩
  · exact ⟨[], .inl ⟨rfl, rfl⟩, Nat.zero_le _⟩
  · obtain ⟨L, e1, e2⟩ := hasT_arr hop E h5
    refine ⟨L, .inr ⟨j, st, room, c, by rw [e2, h4], by rw [h3, e1], ?_⟩, by omega⟩
    intro h6
    rw [h7 (by omega)]
    exact fun h => BK.noConfusion h

abbrev scriptT : List (Bool × List TY) := [(false, [.slice [.int .i64, .int .i64, .int .i64, .int .i64, .int .i64, .int .i64]])]

theorem plays_row : RowOk Try.prog 5 Try.f5 Rows.tlbPlaysSpec scriptT where
  own := own
  noInit := by kernel_rfl
  isf := Try.func5
  laid := laid
  rowed := rowed
  full := full
  params := by kernel_rfl
  vars := rfl
  ret := ⟨_, rfl, by kernel_rfl⟩
  spec := fun H ds e => by
    match ds, e with
    | [_], _ => rfl
  tys := ⟨20, by kernel_rfl⟩

theorem script_law : Law scriptS scriptT := by
  intro h us H hc
  match us, H with
  | [a], ⟨⟨s, ea, H1, _⟩, _⟩ =>
    subst ea
    obtain ⟨L, hL, hn⟩ := isOps_of H1
    exact ⟨_, L, rfl, hL, by simpa [maxLen] using hn, fun _ => rfl⟩
  | [], H => exact H.elim
  | _ :: _ :: _, H => exact H.2.elim

theorem tlbPlays_holds : Rows.TlbPlaysSaid :=
  OpenClaim.holds_of_wide 5 Try.f5 rfl rfl rfl rfl rfl rfl rfl ⟨rfl, rfl, rfl, rfl, rfl⟩ rfl rfl rfl rfl rfl (by kernel_rfl) Try.func5 (by kernel_rfl)
    (of_decide_eq_true (by kernel_rfl)) (by unfold Func.isWrapper; first | (rw [if_pos (by decide +kernel)]; kernel_rfl) | (rw [if_neg (by decide +kernel)]; exact ⟨rfl, rfl⟩))
    (fun os started H enc _ => plays_row.lifted (C := Try.checked) plays_law_snd script_law started (ChangeSpec.witness6 (enc := enc) (C := Try.checked) false ⟨#[], #[.slice none 0 0], []⟩ 8 (by kernel_rfl) (by kernel_rfl) (by kernel_rfl) (by kernel_rfl)))

end Go.Proofs.Ytkdamkfkgnnbeaa
