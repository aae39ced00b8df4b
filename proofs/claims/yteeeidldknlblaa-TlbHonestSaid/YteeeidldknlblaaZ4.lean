/- TlbHonest: for every input the law's Go function answers true, and its arguments read behind the call as before. No conditions. -/
import Derived.Test.YteeeidldknlblaaZ1
import Derived.Test.YteeeidldknlblaaZ3
import Derived.Test.YteeeidldknlblaaRows
/- Lists of words: the document's Load, Same. -/
namespace Go.Proofs.Yteeeidldknlblaa
open Go.D
set_option linter.all false
set_option maxRecDepth 100000
set_option maxHeartbeats 4000000

theorem take_snoc {vs : List Int} {q : Nat} (h : q < vs.length) : vs.take (q + 1) = vs.take q ++ [nth 0 vs q] := by
  rw [List.take_succ_eq_append_getElem h, nth_eq h]
theorem rload_snd : Snd Try.prog 65 (FSpec.of loadG) := snd_run TSp_snd mixed Try.func65 dc65 100 fun args h K hc hS => by
  obtain ⟨a, x, s, b, m, vs, rfl, H, HL, hap, hu, q1, q2⟩ := loadG_spec hS
  clear hS
  have hl := m.l
  have hlen := fun ls h' => HL.sl.len (ls := ls) (h := h')
  cases hh : m.has x vs.length with
  | true =>
    have hS := q1 hh
    obtain ⟨i, n, rfl, e, hij⟩ := M.has_nat hh
    have e : vs.length = n := by omega
    simp only [Int.toNat_natCast] at hS
    simp (config := { maxSteps := 10000000 }) only [EV1, EV2, EV3, EV4, EV5, EV6, addT, istep, lenR_sl, lenR_ns, lenR_es, pickR, putD, bin1R, un1R, slcR, bnd, capsOf, fillP, S_plain, V_plain, V.cells, S_known, V_known, C.v, blk, setL, setH, eqS, eq1, cmpS, cmp1, isNil, popTo, killT, setT, leT, V.below, C.below, S_below, R.below, V.val, C.val, S_val, R.val, R.takes, vals, shows, List.any_cons, List.any_nil, unnamed, V.kill, V.names, C.names, S_names, R.names, List.set, List.replicate, ↓q_cond_t, ↓q_cond_f, if_true, if_false, reduceCtorEq, rvals, rvC, result, C_known, V.noL, C.noL, S_noL, R.noL, Option.map, true_and, and_true, ge_iff_le, gt_iff_lt, implies_true, q_ite_t, q_ite_f, beq_iff_eq, bne_iff_ne, q_ne, Nat.reduceAdd, Nat.reducePow, Int.reducePow, Nat.reduceMul, Nat.reduceSub, Nat.reduceLeDiff, Nat.reduceLT, Nat.reduceEqDiff, Int.reduceNeg, Int.reduceLT, Int.reduceLE, Int.reduceEq, Int.reduceNe, Int.reduceAdd, Int.reduceSub, Int.reduceMul, Int.reduceToNat, Int.reduceBEq, Int.reduceBNe, df65, ↓hlen, TSp, thereG, memF_eq H, thereM, setM_self H, hh]
    refine loop_rule (α := Nat) [8, 16, 17, 18, 19, 20, 21, 22, 23, 24, 25, 26, 27, 28, 29, 30, 31, 32, 33] (fun q => [(8, .s (.i .i64 q))]) (fun _ => []) (fun q => h.set b ⟨.rw, wc (m.lay i (vs.take q)).w, m.w.length⟩) (fun q => q ≤ vs.length) (fun q => vs.length - q) 0 (by omega) ?_ ?_
    · simp only [List.take_zero, M.lay]
      rw [show (⟨.rw, wc m.w, m.w.length⟩ : Blk) = MW m from rfl, set_self H.hb]
      refine Wk.less ?_
      simp (config := { maxSteps := 10000000 }) only [EV1, EV2, EV3, EV4, EV5, EV6, addT, istep, lenR_sl, lenR_ns, lenR_es, pickR, putD, bin1R, un1R, slcR, bnd, capsOf, fillP, S_plain, V_plain, V.cells, S_known, V_known, C.v, blk, setL, setH, eqS, eq1, cmpS, cmp1, isNil, popTo, killT, setT, leT, V.below, C.below, S_below, R.below, V.val, C.val, S_val, R.val, R.takes, vals, shows, List.any_cons, List.any_nil, unnamed, V.kill, V.names, C.names, S_names, R.names, List.set, List.replicate, ↓q_cond_t, ↓q_cond_f, if_true, if_false, reduceCtorEq, rvals, rvC, result, C_known, V.noL, C.noL, S_noL, R.noL, Option.map, true_and, and_true, ge_iff_le, gt_iff_lt, implies_true, q_ite_t, q_ite_f, beq_iff_eq, bne_iff_ne, q_ne, Nat.reduceAdd, Nat.reducePow, Int.reducePow, Nat.reduceMul, Nat.reduceSub, Nat.reduceLeDiff, Nat.reduceLT, Nat.reduceEqDiff, Int.reduceNeg, Int.reduceLT, Int.reduceLE, Int.reduceEq, Int.reduceNe, Int.reduceAdd, Int.reduceSub, Int.reduceMul, Int.reduceToNat, Int.reduceBEq, Int.reduceBNe, q_cast, Int.natCast_zero]
    · intro X q hq IH
      rcases Nat.lt_or_ge q vs.length with h1 | h1
      · obtain ⟨j, o, c, B, rfl, hj, hd, hle, hs⟩ := HL.at h1
        have hap : j ≠ b := hap
        obtain ⟨d1, d2, d3, d4⟩ := idx h1 (by omega)
        have c3 : (h.set b ⟨BK.rw, wc (m.lay i (vs.take q)).w, m.w.length⟩)[b]? = some ⟨BK.rw, wc (m.lay i (vs.take q)).w, m.w.length⟩ := set_hit H.hb
        have c4 : i + q + 1 ≤ (wc (m.lay i (vs.take q)).w).length := by rw [wc_len, M.lay_len]; omega
        have g := IsList.get hs h1 rfl
        have hv : u64 (nth 0 vs q) := hu _ (nth_mem h1)
        have c5 : ((wc (m.lay i (vs.take q)).w).set (i + q) (S.i .u64 (nth 0 vs q))) = wc (m.lay i (vs.take (q + 1))).w := by
          rw [wc_set, take_snoc h1, M.lay_snoc, show (vs.take q).length = q by simp; omega]; simp only [M.put, uw_of hv]
        have hjm : (h.set b ⟨BK.rw, wc (m.lay i (vs.take q)).w, m.w.length⟩)[j]? = some B := by rw [set_miss (Ne.symm hap)]; exact hj
        have ha := H.ha'
        have w1 : IntKind.i64.wrap ((i : Int) + q) = ((i + q : Nat) : Int) := by rw [wrap64] <;> omega
        have d5 : ((i + q : Nat) : Int) < m.w.length := by omega
        have d6 : (0 : Int) ≤ ((i + q : Nat) : Int) := by omega
        refine run_sound (Tab.ok_Γ _) 100 _ _ _ _ ?_
        simp (config := { maxSteps := 10000000 }) only [EV1, EV2, EV3, EV4, EV5, EV6, addT, istep, lenR_sl, lenR_ns, lenR_es, pickR, putD, bin1R, un1R, slcR, bnd, capsOf, fillP, S_plain, V_plain, V.cells, S_known, V_known, C.v, blk, setL, setH, eqS, eq1, cmpS, cmp1, isNil, popTo, killT, setT, leT, V.below, C.below, S_below, R.below, V.val, C.val, S_val, R.val, R.takes, vals, shows, List.any_cons, List.any_nil, unnamed, V.kill, V.names, C.names, S_names, R.names, List.set, List.replicate, ↓q_cond_t, ↓q_cond_f, if_true, if_false, reduceCtorEq, rvals, rvC, result, C_known, V.noL, C.noL, S_noL, R.noL, Option.map, true_and, and_true, ge_iff_le, gt_iff_lt, implies_true, q_ite_t, q_ite_f, beq_iff_eq, bne_iff_ne, q_ne, Nat.reduceAdd, Nat.reducePow, Int.reducePow, Nat.reduceMul, Nat.reduceSub, Nat.reduceLeDiff, Nat.reduceLT, Nat.reduceEqDiff, Int.reduceNeg, Int.reduceLT, Int.reduceLE, Int.reduceEq, Int.reduceNe, Int.reduceAdd, Int.reduceSub, Int.reduceMul, Int.reduceToNat, Int.reduceBEq, Int.reduceBNe, d1, d2, d3, d4, d5, d6, w1, c3, ha, MB, hjm, hd, g, c4, Int.toNat_natCast, put, c5, List.set_set]
        exact IH (q + 1) _ (by omega) (by omega) (Wk.same rfl rfl (by simp (config := { maxSteps := 10000000 }) only [EV1, EV2, EV3, EV4, EV5, EV6, addT, istep, lenR_sl, lenR_ns, lenR_es, pickR, putD, bin1R, un1R, slcR, bnd, capsOf, fillP, S_plain, V_plain, V.cells, S_known, V_known, C.v, blk, setL, setH, eqS, eq1, cmpS, cmp1, isNil, popTo, killT, setT, leT, V.below, C.below, S_below, R.below, V.val, C.val, S_val, R.val, R.takes, vals, shows, List.any_cons, List.any_nil, unnamed, V.kill, V.names, C.names, S_names, R.names, List.set, List.replicate, ↓q_cond_t, ↓q_cond_f, if_true, if_false, reduceCtorEq, rvals, rvC, result, C_known, V.noL, C.noL, S_noL, R.noL, Option.map, true_and, and_true, ge_iff_le, gt_iff_lt, implies_true, q_ite_t, q_ite_f, beq_iff_eq, bne_iff_ne, q_ne, Nat.reduceAdd, Nat.reducePow, Int.reducePow, Nat.reduceMul, Nat.reduceSub, Nat.reduceLeDiff, Nat.reduceLT, Nat.reduceEqDiff, Int.reduceNeg, Int.reduceLT, Int.reduceLE, Int.reduceEq, Int.reduceNe, Int.reduceAdd, Int.reduceSub, Int.reduceMul, Int.reduceToNat, Int.reduceBEq, Int.reduceBNe]))
      · have : q = vs.length := by omega
        subst this
        refine run_sound (Tab.ok_Γ _) 100 _ _ _ _ ?_
        simp (config := { maxSteps := 10000000 }) only [EV1, EV2, EV3, EV4, EV5, EV6, addT, istep, lenR_sl, lenR_ns, lenR_es, pickR, putD, bin1R, un1R, slcR, bnd, capsOf, fillP, S_plain, V_plain, V.cells, S_known, V_known, C.v, blk, setL, setH, eqS, eq1, cmpS, cmp1, isNil, popTo, killT, setT, leT, V.below, C.below, S_below, R.below, V.val, C.val, S_val, R.val, R.takes, vals, shows, List.any_cons, List.any_nil, unnamed, V.kill, V.names, C.names, S_names, R.names, List.set, List.replicate, ↓q_cond_t, ↓q_cond_f, if_true, if_false, reduceCtorEq, rvals, rvC, result, C_known, V.noL, C.noL, S_noL, R.noL, Option.map, true_and, and_true, ge_iff_le, gt_iff_lt, implies_true, q_ite_t, q_ite_f, beq_iff_eq, bne_iff_ne, q_ne, Nat.reduceAdd, Nat.reducePow, Int.reducePow, Nat.reduceMul, Nat.reduceSub, Nat.reduceLeDiff, Nat.reduceLT, Nat.reduceEqDiff, Int.reduceNeg, Int.reduceLT, Int.reduceLE, Int.reduceEq, Int.reduceNe, Int.reduceAdd, Int.reduceSub, Int.reduceMul, Int.reduceToNat, Int.reduceBEq, Int.reduceBNe, ↓hlen, Int.lt_irrefl]
        refine cast (congrArg (K _) ?_) hS
        rw [List.take_length, ← setM_words H (M.lay_len vs m i) (M.lay_n vs m i)]
        simp only [MW, M.lay_len]
  | false =>
    have hS := q2 hh
    simp (config := { maxSteps := 10000000 }) only [EV1, EV2, EV3, EV4, EV5, EV6, addT, istep, lenR_sl, lenR_ns, lenR_es, pickR, putD, bin1R, un1R, slcR, bnd, capsOf, fillP, S_plain, V_plain, V.cells, S_known, V_known, C.v, blk, setL, setH, eqS, eq1, cmpS, cmp1, isNil, popTo, killT, setT, leT, V.below, C.below, S_below, R.below, V.val, C.val, S_val, R.val, R.takes, vals, shows, List.any_cons, List.any_nil, unnamed, V.kill, V.names, C.names, S_names, R.names, List.set, List.replicate, ↓q_cond_t, ↓q_cond_f, if_true, if_false, reduceCtorEq, rvals, rvC, result, C_known, V.noL, C.noL, S_noL, R.noL, Option.map, true_and, and_true, ge_iff_le, gt_iff_lt, implies_true, q_ite_t, q_ite_f, beq_iff_eq, bne_iff_ne, q_ne, Nat.reduceAdd, Nat.reducePow, Int.reducePow, Nat.reduceMul, Nat.reduceSub, Nat.reduceLeDiff, Nat.reduceLT, Nat.reduceEqDiff, Int.reduceNeg, Int.reduceLT, Int.reduceLE, Int.reduceEq, Int.reduceNe, Int.reduceAdd, Int.reduceSub, Int.reduceMul, Int.reduceToNat, Int.reduceBEq, Int.reduceBNe, df65, ↓hlen, TSp, thereG, memF_eq H, thereM, setM_self H, hh]
    exact hS

noncomputable def sameWG : List V → List Blk → Res
  | [.s x, .s y], h => match listOf h x, listOf h y with
    | some v, some w => .ob (v.length ≤ 8796093022208 ∧ w.length ≤ 8796093022208) (.ok (.s (.b (decide (v = w)))) [] h)
    | _, _ => .bad
  | _, _ => .bad
theorem sameWG_spec {args : List V} {h : List Blk} {K : V → List Blk → Prop} (hS : (sameWG args h).spec K) : ∃ x y v w, args = [.s x, .s y] ∧ IsList h x v ∧ IsList h y w ∧ v.length ≤ 8796093022208 ∧ w.length ≤ 8796093022208 ∧ K (.s (.b (decide (v = w)))) h := by
  unfold sameWG at hS
  split at hS
  · split at hS
    · rename_i e1 e2
      exact ⟨_, _, _, _, rfl, listOf_some e1, listOf_some e2, hS.1.1, hS.1.2, hS.2⟩
    · exact hS.elim
  · exact hS.elim
theorem nil_of {v : List Int} (h : v.length = 0) : v = [] := List.eq_nil_of_length_eq_zero h
theorem take_ne {v w : List Int} {q : Nat} (h : q < v.length) (h' : q < w.length) (e : ¬ nth 0 v q = nth 0 w q) : v ≠ w := fun x => by subst x; exact e rfl
theorem eq_of_nth {v w : List Int} (hl : v.length = w.length) (h : ∀ i, i < v.length → nth 0 v i = nth 0 w i) : v = w :=
  List.ext_getElem hl fun i h1 h2 => by have := h i h1; rwa [nth_eq h1, nth_eq h2] at this
theorem sameW_snd : Snd Try.prog 31 (FSpec.of sameWG) := snd_run (noT_snd _) mixed Try.func31 dc31 100 fun args h K hc hS => by
  obtain ⟨x, y, v, w, rfl, Hx, Hy, lx, ly, hK⟩ := sameWG_spec hS
  clear hS
  have hlx := fun ls h' => Hx.sl.len (ls := ls) (h := h')
  have hly := fun ls h' => Hy.sl.len (ls := ls) (h := h')
  by_cases hn : v.length = w.length
  · have e2 : ((v.length : Int) != (w.length : Int)) = false := by rw [hn]; simp
    simp (config := { maxSteps := 10000000 }) only [EV1, EV2, EV3, EV4, EV5, EV6, addT, istep, lenR_sl, lenR_ns, lenR_es, pickR, putD, bin1R, un1R, slcR, bnd, capsOf, fillP, S_plain, V_plain, V.cells, S_known, V_known, C.v, blk, setL, setH, eqS, eq1, cmpS, cmp1, isNil, popTo, killT, setT, leT, V.below, C.below, S_below, R.below, V.val, C.val, S_val, R.val, R.takes, vals, shows, List.any_cons, List.any_nil, unnamed, V.kill, V.names, C.names, S_names, R.names, List.set, List.replicate, ↓q_cond_t, ↓q_cond_f, if_true, if_false, reduceCtorEq, rvals, rvC, result, C_known, V.noL, C.noL, S_noL, R.noL, Option.map, true_and, and_true, ge_iff_le, gt_iff_lt, implies_true, q_ite_t, q_ite_f, beq_iff_eq, bne_iff_ne, q_ne, Nat.reduceAdd, Nat.reducePow, Int.reducePow, Nat.reduceMul, Nat.reduceSub, Nat.reduceLeDiff, Nat.reduceLT, Nat.reduceEqDiff, Int.reduceNeg, Int.reduceLT, Int.reduceLE, Int.reduceEq, Int.reduceNe, Int.reduceAdd, Int.reduceSub, Int.reduceMul, Int.reduceToNat, Int.reduceBEq, Int.reduceBNe, df31, ↓hlx, ↓hly, e2]
    refine loop_rule (α := Nat) [4, 5, 11, 12, 13, 14, 15, 16, 17, 18, 19, 20, 21, 22, 23, 24, 25] (fun q => [(5, .s (.i .i64 q))]) (fun _ => []) (fun q => h) (fun q => q ≤ v.length ∧ ∀ i, i < q → nth 0 v i = nth 0 w i) (fun q => v.length - q) 0 ⟨by omega, fun i hi => by omega⟩ ?_ ?_
    · refine Wk.less ?_
      simp (config := { maxSteps := 10000000 }) only [EV1, EV2, EV3, EV4, EV5, EV6, addT, istep, lenR_sl, lenR_ns, lenR_es, pickR, putD, bin1R, un1R, slcR, bnd, capsOf, fillP, S_plain, V_plain, V.cells, S_known, V_known, C.v, blk, setL, setH, eqS, eq1, cmpS, cmp1, isNil, popTo, killT, setT, leT, V.below, C.below, S_below, R.below, V.val, C.val, S_val, R.val, R.takes, vals, shows, List.any_cons, List.any_nil, unnamed, V.kill, V.names, C.names, S_names, R.names, List.set, List.replicate, ↓q_cond_t, ↓q_cond_f, if_true, if_false, reduceCtorEq, rvals, rvC, result, C_known, V.noL, C.noL, S_noL, R.noL, Option.map, true_and, and_true, ge_iff_le, gt_iff_lt, implies_true, q_ite_t, q_ite_f, beq_iff_eq, bne_iff_ne, q_ne, Nat.reduceAdd, Nat.reducePow, Int.reducePow, Nat.reduceMul, Nat.reduceSub, Nat.reduceLeDiff, Nat.reduceLT, Nat.reduceEqDiff, Int.reduceNeg, Int.reduceLT, Int.reduceLE, Int.reduceEq, Int.reduceNe, Int.reduceAdd, Int.reduceSub, Int.reduceMul, Int.reduceToNat, Int.reduceBEq, Int.reduceBNe, q_cast, Int.natCast_zero]
    · rintro X q ⟨hq, hpre⟩ IH
      rcases Nat.lt_or_ge q v.length with h1 | h1
      · obtain ⟨j, o, c, B, rfl, hj, hd, hle, hs⟩ := Hx.at h1
        obtain ⟨j2, o2, c2, B2, rfl, hj2, hd2, hle2, hs2⟩ := Hy.at (i := q) (by omega)
        obtain ⟨d1, d2, d3, d4⟩ := idx h1 (by omega)
        have d5 : (q : Int) < w.length := by omega
        have g1 := IsList.get hs h1 rfl
        have g2 := IsList.get hs2 (i := q) (by omega) rfl
        by_cases hx : nth 0 v q = nth 0 w q
        · have f1 : (nth 0 v q != nth 0 w q) = false := by simpa using hx
          refine run_sound (Tab.ok_Γ _) 100 _ _ _ _ ?_
          simp (config := { maxSteps := 10000000 }) only [EV1, EV2, EV3, EV4, EV5, EV6, addT, istep, lenR_sl, lenR_ns, lenR_es, pickR, putD, bin1R, un1R, slcR, bnd, capsOf, fillP, S_plain, V_plain, V.cells, S_known, V_known, C.v, blk, setL, setH, eqS, eq1, cmpS, cmp1, isNil, popTo, killT, setT, leT, V.below, C.below, S_below, R.below, V.val, C.val, S_val, R.val, R.takes, vals, shows, List.any_cons, List.any_nil, unnamed, V.kill, V.names, C.names, S_names, R.names, List.set, List.replicate, ↓q_cond_t, ↓q_cond_f, if_true, if_false, reduceCtorEq, rvals, rvC, result, C_known, V.noL, C.noL, S_noL, R.noL, Option.map, true_and, and_true, ge_iff_le, gt_iff_lt, implies_true, q_ite_t, q_ite_f, beq_iff_eq, bne_iff_ne, q_ne, Nat.reduceAdd, Nat.reducePow, Int.reducePow, Nat.reduceMul, Nat.reduceSub, Nat.reduceLeDiff, Nat.reduceLT, Nat.reduceEqDiff, Int.reduceNeg, Int.reduceLT, Int.reduceLE, Int.reduceEq, Int.reduceNe, Int.reduceAdd, Int.reduceSub, Int.reduceMul, Int.reduceToNat, Int.reduceBEq, Int.reduceBNe, d1, d2, d3, d4, d5, g1, g2, hj, hj2, hd, hd2, f1, hx, Int.toNat_natCast]
          exact IH (q + 1) _ (by omega) ⟨by omega, fun i hi => by
            rcases Nat.lt_or_ge i q with h2 | h2
            · exact hpre i h2
            · have : i = q := by omega
              subst this; exact hx⟩ (Wk.same rfl rfl (by simp (config := { maxSteps := 10000000 }) only [EV1, EV2, EV3, EV4, EV5, EV6, addT, istep, lenR_sl, lenR_ns, lenR_es, pickR, putD, bin1R, un1R, slcR, bnd, capsOf, fillP, S_plain, V_plain, V.cells, S_known, V_known, C.v, blk, setL, setH, eqS, eq1, cmpS, cmp1, isNil, popTo, killT, setT, leT, V.below, C.below, S_below, R.below, V.val, C.val, S_val, R.val, R.takes, vals, shows, List.any_cons, List.any_nil, unnamed, V.kill, V.names, C.names, S_names, R.names, List.set, List.replicate, ↓q_cond_t, ↓q_cond_f, if_true, if_false, reduceCtorEq, rvals, rvC, result, C_known, V.noL, C.noL, S_noL, R.noL, Option.map, true_and, and_true, ge_iff_le, gt_iff_lt, implies_true, q_ite_t, q_ite_f, beq_iff_eq, bne_iff_ne, q_ne, Nat.reduceAdd, Nat.reducePow, Int.reducePow, Nat.reduceMul, Nat.reduceSub, Nat.reduceLeDiff, Nat.reduceLT, Nat.reduceEqDiff, Int.reduceNeg, Int.reduceLT, Int.reduceLE, Int.reduceEq, Int.reduceNe, Int.reduceAdd, Int.reduceSub, Int.reduceMul, Int.reduceToNat, Int.reduceBEq, Int.reduceBNe]))
        · have f1 : (nth 0 v q != nth 0 w q) = true := by simpa using hx
          have e1 := take_ne h1 (by omega) hx
          simp only [e1, decide_false] at hK
          refine run_sound (Tab.ok_Γ _) 100 _ _ _ _ ?_
          simp (config := { maxSteps := 10000000 }) only [EV1, EV2, EV3, EV4, EV5, EV6, addT, istep, lenR_sl, lenR_ns, lenR_es, pickR, putD, bin1R, un1R, slcR, bnd, capsOf, fillP, S_plain, V_plain, V.cells, S_known, V_known, C.v, blk, setL, setH, eqS, eq1, cmpS, cmp1, isNil, popTo, killT, setT, leT, V.below, C.below, S_below, R.below, V.val, C.val, S_val, R.val, R.takes, vals, shows, List.any_cons, List.any_nil, unnamed, V.kill, V.names, C.names, S_names, R.names, List.set, List.replicate, ↓q_cond_t, ↓q_cond_f, if_true, if_false, reduceCtorEq, rvals, rvC, result, C_known, V.noL, C.noL, S_noL, R.noL, Option.map, true_and, and_true, ge_iff_le, gt_iff_lt, implies_true, q_ite_t, q_ite_f, beq_iff_eq, bne_iff_ne, q_ne, Nat.reduceAdd, Nat.reducePow, Int.reducePow, Nat.reduceMul, Nat.reduceSub, Nat.reduceLeDiff, Nat.reduceLT, Nat.reduceEqDiff, Int.reduceNeg, Int.reduceLT, Int.reduceLE, Int.reduceEq, Int.reduceNe, Int.reduceAdd, Int.reduceSub, Int.reduceMul, Int.reduceToNat, Int.reduceBEq, Int.reduceBNe, d1, d2, d3, d4, d5, g1, g2, hj, hj2, hd, hd2, f1, hx, Int.toNat_natCast]
          exact hK
      · have : q = v.length := by omega
        subst this
        have e1 := eq_of_nth hn hpre
        simp only [e1, decide_true] at hK
        refine run_sound (Tab.ok_Γ _) 100 _ _ _ _ ?_
        simp (config := { maxSteps := 10000000 }) only [EV1, EV2, EV3, EV4, EV5, EV6, addT, istep, lenR_sl, lenR_ns, lenR_es, pickR, putD, bin1R, un1R, slcR, bnd, capsOf, fillP, S_plain, V_plain, V.cells, S_known, V_known, C.v, blk, setL, setH, eqS, eq1, cmpS, cmp1, isNil, popTo, killT, setT, leT, V.below, C.below, S_below, R.below, V.val, C.val, S_val, R.val, R.takes, vals, shows, List.any_cons, List.any_nil, unnamed, V.kill, V.names, C.names, S_names, R.names, List.set, List.replicate, ↓q_cond_t, ↓q_cond_f, if_true, if_false, reduceCtorEq, rvals, rvC, result, C_known, V.noL, C.noL, S_noL, R.noL, Option.map, true_and, and_true, ge_iff_le, gt_iff_lt, implies_true, q_ite_t, q_ite_f, beq_iff_eq, bne_iff_ne, q_ne, Nat.reduceAdd, Nat.reducePow, Int.reducePow, Nat.reduceMul, Nat.reduceSub, Nat.reduceLeDiff, Nat.reduceLT, Nat.reduceEqDiff, Int.reduceNeg, Int.reduceLT, Int.reduceLE, Int.reduceEq, Int.reduceNe, Int.reduceAdd, Int.reduceSub, Int.reduceMul, Int.reduceToNat, Int.reduceBEq, Int.reduceBNe, ↓hlx, Int.lt_irrefl]
        exact hK
  · have e1 : ¬ (v = w) := fun e => hn (by rw [e])
    have e2 : ((v.length : Int) != (w.length : Int)) = true := by rw [bne_iff_ne]; omega
    have e3 : ¬ ((v.length : Int) = (w.length : Int)) := by omega
    simp only [e1, decide_false] at hK
    simp (config := { maxSteps := 10000000 }) only [EV1, EV2, EV3, EV4, EV5, EV6, addT, istep, lenR_sl, lenR_ns, lenR_es, pickR, putD, bin1R, un1R, slcR, bnd, capsOf, fillP, S_plain, V_plain, V.cells, S_known, V_known, C.v, blk, setL, setH, eqS, eq1, cmpS, cmp1, isNil, popTo, killT, setT, leT, V.below, C.below, S_below, R.below, V.val, C.val, S_val, R.val, R.takes, vals, shows, List.any_cons, List.any_nil, unnamed, V.kill, V.names, C.names, S_names, R.names, List.set, List.replicate, ↓q_cond_t, ↓q_cond_f, if_true, if_false, reduceCtorEq, rvals, rvC, result, C_known, V.noL, C.noL, S_noL, R.noL, Option.map, true_and, and_true, ge_iff_le, gt_iff_lt, implies_true, q_ite_t, q_ite_f, beq_iff_eq, bne_iff_ne, q_ne, Nat.reduceAdd, Nat.reducePow, Int.reducePow, Nat.reduceMul, Nat.reduceSub, Nat.reduceLeDiff, Nat.reduceLT, Nat.reduceEqDiff, Int.reduceNeg, Int.reduceLT, Int.reduceLE, Int.reduceEq, Int.reduceNe, Int.reduceAdd, Int.reduceSub, Int.reduceMul, Int.reduceToNat, Int.reduceBEq, Int.reduceBNe, df31, ↓hlx, ↓hly, e2, e3]
    exact hK
end Go.Proofs.Yteeeidldknlblaa

/- The machine's memory: Copy; the document's Fill, Copy, Dump. -/
namespace Go.Proofs.Yteeeidldknlblaa
open Go.D
set_option linter.all false
set_option maxRecDepth 100000
set_option maxHeartbeats 4000000

/-- A part of the words. -/
def M.part (m : M) (x k : Nat) : List Int := (m.w.drop x).take k
theorem M.part_len {m : M} {x k : Nat} (h : x + k ≤ m.w.length) : (m.part x k).length = k := by simp [M.part]; omega
theorem M.part_u {m : M} {x k : Nat} : ∀ v, v ∈ m.part x k → u64 v := fun v hv => m.u v (List.mem_of_mem_drop (List.mem_of_mem_take hv))
theorem nth_part {m : M} {x k i : Nat} (h : i < k) : nth 0 (m.part x k) i = nth 0 m.w (x + i) := by
  unfold M.part
  generalize m.w = l
  induction x generalizing l with
  | zero =>
    simp only [List.drop_zero, Nat.zero_add]
    induction k generalizing l i with
    | zero => omega
    | succ k ih =>
      cases l with
      | nil => rfl
      | cons x l =>
        cases i with
        | zero => rfl
        | succ i => exact ih (l := l) (by omega)
  | succ a ih =>
    cases l with
    | nil => simp [nth]
    | cons x l =>
      rw [List.drop_succ_cons, ih, show a + 1 + i = (a + i) + 1 by omega]; rfl
def M.copy (m : M) (x y k : Nat) : M := (m.lay y (m.part x k)).tick (2 * k)
def copyM (b : Nat) (m : M) (st : M → List Blk) : List V → Res
  | [.s (.i .i64 x), .s (.i .i64 y), .s (.i .i64 k)] => .br (m.has x k && m.has y k) (.ok (.s (.i .i64 0)) [] (st (m.copy x.toNat y.toNat k.toNat))) (.ok (.s (.i .i64 20)) [] (st m))
  | _ => .bad
noncomputable def copyG := memF copyM
theorem mcopy_snd : Snd Try.prog 28 (FSpec.of copyG) := snd_run TSp_snd mixed Try.func28 dc28 100 fun args h K hc hS => by
  obtain ⟨a, b, m, rest, rfl, H, hS1⟩ := memF_spec hS
  clear hS
  have hS := hS1
  clear hS1
  unfold copyM at hS
  split at hS
  · rename_i x y k
    simp only [spec_ok, spec_br, setM_self H] at hS
    have hl := m.l
    cases hx : m.has x k with
    | false =>
      have hS := hS.2 (by rw [hx]; rfl)
      cases hy : m.has y k <;> simp (config := { maxSteps := 10000000 }) only [EV1, EV2, EV3, EV4, EV5, EV6, addT, istep, lenR_sl, lenR_ns, lenR_es, pickR, putD, bin1R, un1R, slcR, bnd, capsOf, fillP, S_plain, V_plain, V.cells, S_known, V_known, C.v, blk, setL, setH, eqS, eq1, cmpS, cmp1, isNil, popTo, killT, setT, leT, V.below, C.below, S_below, R.below, V.val, C.val, S_val, R.val, R.takes, vals, shows, List.any_cons, List.any_nil, unnamed, V.kill, V.names, C.names, S_names, R.names, List.set, List.replicate, ↓q_cond_t, ↓q_cond_f, if_true, if_false, reduceCtorEq, rvals, rvC, result, C_known, V.noL, C.noL, S_noL, R.noL, Option.map, true_and, and_true, ge_iff_le, gt_iff_lt, implies_true, q_ite_t, q_ite_f, beq_iff_eq, bne_iff_ne, q_ne, Nat.reduceAdd, Nat.reducePow, Int.reducePow, Nat.reduceMul, Nat.reduceSub, Nat.reduceLeDiff, Nat.reduceLT, Nat.reduceEqDiff, Int.reduceNeg, Int.reduceLT, Int.reduceLE, Int.reduceEq, Int.reduceNe, Int.reduceAdd, Int.reduceSub, Int.reduceMul, Int.reduceToNat, Int.reduceBEq, Int.reduceBNe, df28, TSp, spanG, memF_eq H, spanM, setM_self H, hx, hy]
      all_goals exact hS
    | true =>
      cases hy : m.has y k with
      | false =>
        have hS := hS.2 (by rw [hx, hy]; rfl)
        simp (config := { maxSteps := 10000000 }) only [EV1, EV2, EV3, EV4, EV5, EV6, addT, istep, lenR_sl, lenR_ns, lenR_es, pickR, putD, bin1R, un1R, slcR, bnd, capsOf, fillP, S_plain, V_plain, V.cells, S_known, V_known, C.v, blk, setL, setH, eqS, eq1, cmpS, cmp1, isNil, popTo, killT, setT, leT, V.below, C.below, S_below, R.below, V.val, C.val, S_val, R.val, R.takes, vals, shows, List.any_cons, List.any_nil, unnamed, V.kill, V.names, C.names, S_names, R.names, List.set, List.replicate, ↓q_cond_t, ↓q_cond_f, if_true, if_false, reduceCtorEq, rvals, rvC, result, C_known, V.noL, C.noL, S_noL, R.noL, Option.map, true_and, and_true, ge_iff_le, gt_iff_lt, implies_true, q_ite_t, q_ite_f, beq_iff_eq, bne_iff_ne, q_ne, Nat.reduceAdd, Nat.reducePow, Int.reducePow, Nat.reduceMul, Nat.reduceSub, Nat.reduceLeDiff, Nat.reduceLT, Nat.reduceEqDiff, Int.reduceNeg, Int.reduceLT, Int.reduceLE, Int.reduceEq, Int.reduceNe, Int.reduceAdd, Int.reduceSub, Int.reduceMul, Int.reduceToNat, Int.reduceBEq, Int.reduceBNe, df28, TSp, spanG, memF_eq H, spanM, setM_self H, hx, hy]
        exact hS
      | true =>
        have hS := hS.1 (by rw [hx, hy]; rfl)
        obtain ⟨i, n, rfl, rfl, hin⟩ := M.has_nat hx
        obtain ⟨j, n', rfl, e, hjn⟩ := M.has_nat hy
        have e : n = n' := by omega
        subst e
        simp only [Int.toNat_natCast] at hS
        obtain ⟨o, ho, hoi⟩ : ∃ o : Nat, (if m.w.length = i then 0 else i) = o ∧ (i < m.w.length → o = i) := ⟨_, rfl, fun hlt => if_neg (by omega)⟩
        obtain ⟨p, hp, hpj⟩ : ∃ p : Nat, (if m.w.length = j then 0 else j) = p ∧ (j < m.w.length → p = j) := ⟨_, rfl, fun hlt => if_neg (by omega)⟩
        have ho2 : o + n ≤ m.w.length := by rw [← ho]; split <;> omega
        have hp2 : p + n ≤ m.w.length := by rw [← hp]; split <;> omega
        have hcl : (wc m.w).length = m.w.length := wc_len _
        have c5 : ¬ (wc m.w).length < o + n := by omega
        have c6 : ¬ m.w.length < o + n := by omega
        have hpart : sub (wc m.w) o n = wc (m.part i n) := by
          rcases Nat.eq_zero_or_pos n with h0 | h0
          · subst h0; simp [sub, M.part, wc]
          · rw [hoi (by omega), wc_sub]; rfl
        have hpl := M.part_len hin
        have hsub : sub (wc (m.part i n)) 0 n = wc (m.part i n) := by
          rw [wc_sub, List.drop_zero, List.take_of_length_le (by omega)]
        have hmin : min n n = n := Nat.min_self _
        have hlay : D.put (wc m.w) p (wc (m.part i n)) = wc (m.lay j (m.part i n)).w := by
          rcases Nat.eq_zero_or_pos n with h0 | h0
          · have : m.part i n = [] := List.eq_nil_of_length_eq_zero (by omega)
            rw [this]; rfl
          · rw [hpj (by omega)]; exact M.lay_w _ m j M.part_u
        have w1 : IntKind.i64.wrap (2 * (n : Int)) = 2 * (n : Int) := wrap64 (by omega) (by omega)
        have hpu : (wc (m.part i n)).all (S.val h.length 0) = true := wc_val _ _ _
        simp (config := { maxSteps := 10000000 }) only [EV1, EV2, EV3, EV4, EV5, EV6, addT, istep, lenR_sl, lenR_ns, lenR_es, pickR, putD, bin1R, un1R, slcR, bnd, capsOf, fillP, S_plain, V_plain, V.cells, S_known, V_known, C.v, blk, setL, setH, eqS, eq1, cmpS, cmp1, isNil, popTo, killT, setT, leT, V.below, C.below, S_below, R.below, V.val, C.val, S_val, R.val, R.takes, vals, shows, List.any_cons, List.any_nil, unnamed, V.kill, V.names, C.names, S_names, R.names, List.set, List.replicate, ↓q_cond_t, ↓q_cond_f, if_true, if_false, reduceCtorEq, rvals, rvC, result, C_known, V.noL, C.noL, S_noL, R.noL, Option.map, true_and, and_true, ge_iff_le, gt_iff_lt, implies_true, q_ite_t, q_ite_f, beq_iff_eq, bne_iff_ne, q_ne, Nat.reduceAdd, Nat.reducePow, Int.reducePow, Nat.reduceMul, Nat.reduceSub, Nat.reduceLeDiff, Nat.reduceLT, Nat.reduceEqDiff, Int.reduceNeg, Int.reduceLT, Int.reduceLE, Int.reduceEq, Int.reduceNe, Int.reduceAdd, Int.reduceSub, Int.reduceMul, Int.reduceToNat, Int.reduceBEq, Int.reduceBNe, df28, TSp, spanG, memF_eq H, spanM, setM_self H, hx, hy, H.ha, H.hb, H.ha', H.hb', MW, MB, hcl, ho, hp, c5, c6, hpart, hsub, hmin, hlay, wc_known, wc_takes, wc_all, w1, Int.toNat_natCast, put, ho2, hp2]
        refine cast (congrArg (K _) ?_) hS
        simp only [setM, MW, MB, M.copy, M.tick, M.lay_len, M.lay_n]
        try rw [List.set_comm _ _ H.ne]
  · exact hS.elim

theorem rfill_snd : Snd Try.prog 62 (FSpec.of fillG) := snd_run TSp_snd mixed Try.func62 dc62 100 fun args h K hc hS => by
  obtain ⟨a, b, m, rest, rfl, H, hS1⟩ := memF_spec hS
  clear hS
  have hS := hS1
  clear hS1
  unfold fillM at hS
  split at hS
  · rename_i x k v
    simp only [spec_ob, spec_ok, spec_br, setM_self H] at hS
    obtain ⟨hv, hS⟩ := hS
    cases hh : m.has x k with
    | true =>
      have hS := hS.1 hh
      obtain ⟨i, j, rfl, rfl, hij⟩ := M.has_nat hh
      simp only [Int.toNat_natCast] at hS
      have hl := m.l
      simp (config := { maxSteps := 10000000 }) only [EV1, EV2, EV3, EV4, EV5, EV6, addT, istep, lenR_sl, lenR_ns, lenR_es, pickR, putD, bin1R, un1R, slcR, bnd, capsOf, fillP, S_plain, V_plain, V.cells, S_known, V_known, C.v, blk, setL, setH, eqS, eq1, cmpS, cmp1, isNil, popTo, killT, setT, leT, V.below, C.below, S_below, R.below, V.val, C.val, S_val, R.val, R.takes, vals, shows, List.any_cons, List.any_nil, unnamed, V.kill, V.names, C.names, S_names, R.names, List.set, List.replicate, ↓q_cond_t, ↓q_cond_f, if_true, if_false, reduceCtorEq, rvals, rvC, result, C_known, V.noL, C.noL, S_noL, R.noL, Option.map, true_and, and_true, ge_iff_le, gt_iff_lt, implies_true, q_ite_t, q_ite_f, beq_iff_eq, bne_iff_ne, q_ne, Nat.reduceAdd, Nat.reducePow, Int.reducePow, Nat.reduceMul, Nat.reduceSub, Nat.reduceLeDiff, Nat.reduceLT, Nat.reduceEqDiff, Int.reduceNeg, Int.reduceLT, Int.reduceLE, Int.reduceEq, Int.reduceNe, Int.reduceAdd, Int.reduceSub, Int.reduceMul, Int.reduceToNat, Int.reduceBEq, Int.reduceBNe, df62, TSp, thereG, memF_eq H, thereM, setM_self H, hh, Int.toNat_natCast]
      refine loop_rule (α := Nat) [10, 17, 18, 19, 20, 21, 22, 23, 24, 25, 26, 27, 28, 29, 30] (fun q => [(10, .s (.i .i64 q))]) (fun _ => []) (fun q => h.set b ⟨.rw, wc (m.fill i v q).w, m.w.length⟩) (fun q => q ≤ j) (fun q => j - q) 0 (by omega) ?_ ?_
      · simp only [M.fill]
        rw [show (⟨.rw, wc m.w, m.w.length⟩ : Blk) = MW m from rfl, set_self H.hb]
        refine Wk.less ?_
        simp (config := { maxSteps := 10000000 }) only [EV1, EV2, EV3, EV4, EV5, EV6, addT, istep, lenR_sl, lenR_ns, lenR_es, pickR, putD, bin1R, un1R, slcR, bnd, capsOf, fillP, S_plain, V_plain, V.cells, S_known, V_known, C.v, blk, setL, setH, eqS, eq1, cmpS, cmp1, isNil, popTo, killT, setT, leT, V.below, C.below, S_below, R.below, V.val, C.val, S_val, R.val, R.takes, vals, shows, List.any_cons, List.any_nil, unnamed, V.kill, V.names, C.names, S_names, R.names, List.set, List.replicate, ↓q_cond_t, ↓q_cond_f, if_true, if_false, reduceCtorEq, rvals, rvC, result, C_known, V.noL, C.noL, S_noL, R.noL, Option.map, true_and, and_true, ge_iff_le, gt_iff_lt, implies_true, q_ite_t, q_ite_f, beq_iff_eq, bne_iff_ne, q_ne, Nat.reduceAdd, Nat.reducePow, Int.reducePow, Nat.reduceMul, Nat.reduceSub, Nat.reduceLeDiff, Nat.reduceLT, Nat.reduceEqDiff, Int.reduceNeg, Int.reduceLT, Int.reduceLE, Int.reduceEq, Int.reduceNe, Int.reduceAdd, Int.reduceSub, Int.reduceMul, Int.reduceToNat, Int.reduceBEq, Int.reduceBNe, q_cast, Int.natCast_zero]
      · rintro X q hq IH
        have ha := H.ha'
        rcases Nat.lt_or_ge q j with h1 | h1
        · obtain ⟨d1, d2, d3, d4⟩ := idx h1 (by omega)
          have c3 : (h.set b ⟨BK.rw, wc (m.fill i v q).w, m.w.length⟩)[b]? = some ⟨BK.rw, wc (m.fill i v q).w, m.w.length⟩ := set_hit H.hb
          have c4 : i + q + 1 ≤ (wc (m.fill i v q).w).length := by rw [wc_len, M.fill_len]; omega
          have c5 : ((wc (m.fill i v q).w).set (i + q) (S.i .u64 v)) = wc (m.fill i v (q + 1)).w := by rw [wc_set]; simp only [M.fill, M.put, uw_of hv]
          have w1 : IntKind.i64.wrap ((i : Int) + q) = ((i + q : Nat) : Int) := by rw [wrap64] <;> omega
          have d5 : ((i + q : Nat) : Int) < m.w.length := by omega
          have d6 : (0 : Int) ≤ ((i + q : Nat) : Int) := by omega
          refine run_sound (Tab.ok_Γ _) 100 _ _ _ _ ?_
          simp (config := { maxSteps := 10000000 }) only [EV1, EV2, EV3, EV4, EV5, EV6, addT, istep, lenR_sl, lenR_ns, lenR_es, pickR, putD, bin1R, un1R, slcR, bnd, capsOf, fillP, S_plain, V_plain, V.cells, S_known, V_known, C.v, blk, setL, setH, eqS, eq1, cmpS, cmp1, isNil, popTo, killT, setT, leT, V.below, C.below, S_below, R.below, V.val, C.val, S_val, R.val, R.takes, vals, shows, List.any_cons, List.any_nil, unnamed, V.kill, V.names, C.names, S_names, R.names, List.set, List.replicate, ↓q_cond_t, ↓q_cond_f, if_true, if_false, reduceCtorEq, rvals, rvC, result, C_known, V.noL, C.noL, S_noL, R.noL, Option.map, true_and, and_true, ge_iff_le, gt_iff_lt, implies_true, q_ite_t, q_ite_f, beq_iff_eq, bne_iff_ne, q_ne, Nat.reduceAdd, Nat.reducePow, Int.reducePow, Nat.reduceMul, Nat.reduceSub, Nat.reduceLeDiff, Nat.reduceLT, Nat.reduceEqDiff, Int.reduceNeg, Int.reduceLT, Int.reduceLE, Int.reduceEq, Int.reduceNe, Int.reduceAdd, Int.reduceSub, Int.reduceMul, Int.reduceToNat, Int.reduceBEq, Int.reduceBNe, d1, d2, d3, d4, d5, d6, w1, c3, ha, MB, MW, c4, Int.toNat_natCast, put, c5, List.set_set]
          exact IH (q + 1) _ (by omega) (by omega) (Wk.same rfl rfl (by simp (config := { maxSteps := 10000000 }) only [EV1, EV2, EV3, EV4, EV5, EV6, addT, istep, lenR_sl, lenR_ns, lenR_es, pickR, putD, bin1R, un1R, slcR, bnd, capsOf, fillP, S_plain, V_plain, V.cells, S_known, V_known, C.v, blk, setL, setH, eqS, eq1, cmpS, cmp1, isNil, popTo, killT, setT, leT, V.below, C.below, S_below, R.below, V.val, C.val, S_val, R.val, R.takes, vals, shows, List.any_cons, List.any_nil, unnamed, V.kill, V.names, C.names, S_names, R.names, List.set, List.replicate, ↓q_cond_t, ↓q_cond_f, if_true, if_false, reduceCtorEq, rvals, rvC, result, C_known, V.noL, C.noL, S_noL, R.noL, Option.map, true_and, and_true, ge_iff_le, gt_iff_lt, implies_true, q_ite_t, q_ite_f, beq_iff_eq, bne_iff_ne, q_ne, Nat.reduceAdd, Nat.reducePow, Int.reducePow, Nat.reduceMul, Nat.reduceSub, Nat.reduceLeDiff, Nat.reduceLT, Nat.reduceEqDiff, Int.reduceNeg, Int.reduceLT, Int.reduceLE, Int.reduceEq, Int.reduceNe, Int.reduceAdd, Int.reduceSub, Int.reduceMul, Int.reduceToNat, Int.reduceBEq, Int.reduceBNe]))
        · have : q = j := by omega
          subst this
          refine run_sound (Tab.ok_Γ _) 100 _ _ _ _ ?_
          simp (config := { maxSteps := 10000000 }) only [EV1, EV2, EV3, EV4, EV5, EV6, addT, istep, lenR_sl, lenR_ns, lenR_es, pickR, putD, bin1R, un1R, slcR, bnd, capsOf, fillP, S_plain, V_plain, V.cells, S_known, V_known, C.v, blk, setL, setH, eqS, eq1, cmpS, cmp1, isNil, popTo, killT, setT, leT, V.below, C.below, S_below, R.below, V.val, C.val, S_val, R.val, R.takes, vals, shows, List.any_cons, List.any_nil, unnamed, V.kill, V.names, C.names, S_names, R.names, List.set, List.replicate, ↓q_cond_t, ↓q_cond_f, if_true, if_false, reduceCtorEq, rvals, rvC, result, C_known, V.noL, C.noL, S_noL, R.noL, Option.map, true_and, and_true, ge_iff_le, gt_iff_lt, implies_true, q_ite_t, q_ite_f, beq_iff_eq, bne_iff_ne, q_ne, Nat.reduceAdd, Nat.reducePow, Int.reducePow, Nat.reduceMul, Nat.reduceSub, Nat.reduceLeDiff, Nat.reduceLT, Nat.reduceEqDiff, Int.reduceNeg, Int.reduceLT, Int.reduceLE, Int.reduceEq, Int.reduceNe, Int.reduceAdd, Int.reduceSub, Int.reduceMul, Int.reduceToNat, Int.reduceBEq, Int.reduceBNe, Int.lt_irrefl, ha, MB]
          refine cast (congrArg (K _) ?_) hS
          simp only [setM]
          rw [List.set_comm _ _ H.ne]
          simp only [MW, MB, M.tick, M.fill_len, M.fill_n]
    | false =>
      have hS := hS.2 hh
      simp (config := { maxSteps := 10000000 }) only [EV1, EV2, EV3, EV4, EV5, EV6, addT, istep, lenR_sl, lenR_ns, lenR_es, pickR, putD, bin1R, un1R, slcR, bnd, capsOf, fillP, S_plain, V_plain, V.cells, S_known, V_known, C.v, blk, setL, setH, eqS, eq1, cmpS, cmp1, isNil, popTo, killT, setT, leT, V.below, C.below, S_below, R.below, V.val, C.val, S_val, R.val, R.takes, vals, shows, List.any_cons, List.any_nil, unnamed, V.kill, V.names, C.names, S_names, R.names, List.set, List.replicate, ↓q_cond_t, ↓q_cond_f, if_true, if_false, reduceCtorEq, rvals, rvC, result, C_known, V.noL, C.noL, S_noL, R.noL, Option.map, true_and, and_true, ge_iff_le, gt_iff_lt, implies_true, q_ite_t, q_ite_f, beq_iff_eq, bne_iff_ne, q_ne, Nat.reduceAdd, Nat.reducePow, Int.reducePow, Nat.reduceMul, Nat.reduceSub, Nat.reduceLeDiff, Nat.reduceLT, Nat.reduceEqDiff, Int.reduceNeg, Int.reduceLT, Int.reduceLE, Int.reduceEq, Int.reduceNe, Int.reduceAdd, Int.reduceSub, Int.reduceMul, Int.reduceToNat, Int.reduceBEq, Int.reduceBNe, df62, TSp, thereG, memF_eq H, thereM, setM_self H, hh]
      exact hS
  · exact hS.elim
end Go.Proofs.Yteeeidldknlblaa

/- The machine's memory: plain facts of what is laid, filled, copied. -/
namespace Go.Proofs.Yteeeidldknlblaa
open Go.D
set_option linter.all false
set_option maxRecDepth 100000
set_option maxHeartbeats 4000000

theorem M.at_lay : ∀ (vs : List Int) (m : M) (o : Nat) (j : Int), (∀ v, v ∈ vs → u64 v) → (m.lay o vs).at j = if o ≤ j.toNat ∧ j.toNat < o + vs.length ∧ j.toNat < m.w.length then nth 0 vs (j.toNat - o) else m.at j
  | [], m, o, j, _ => by rw [M.lay, if_neg (by simp only [List.length_nil]; omega)]
  | v :: vs, m, o, j, hu => by
    rw [M.lay, M.at_lay vs (m.put o v) (o + 1) j (fun x hx => hu x (List.mem_cons_of_mem _ hx)), M.at_put, M.put_len, List.length_cons]
    by_cases h1 : o + 1 ≤ j.toNat ∧ j.toNat < o + 1 + vs.length ∧ j.toNat < m.w.length
    · rw [if_pos h1, if_pos (by omega), show j.toNat - o = (j.toNat - (o + 1)) + 1 by omega]; rfl
    · rw [if_neg h1]
      by_cases h2 : o = j.toNat ∧ o < m.w.length
      · rw [if_pos h2, if_pos (by omega), show j.toNat - o = 0 by omega]
        exact uw_of (hu v (by simp))
      · rw [if_neg h2, if_neg (by omega)]
theorem M.at_part {m : M} {x k i : Nat} (h : i < k) : nth 0 (m.part x k) i = m.at ((x + i : Nat) : Int) := by
  rw [nth_part h]; simp only [M.at, Int.toNat_natCast]
theorem M.at_copy (m : M) (x y k : Nat) (j : Int) (hx : x + k ≤ m.w.length) (hy : y + k ≤ m.w.length) : (m.copy x y k).at j = if y ≤ j.toNat ∧ j.toNat < y + k then m.at ((x + (j.toNat - y) : Nat) : Int) else m.at j := by
  rw [M.copy, M.at_tick, M.at_lay _ _ _ _ M.part_u, M.part_len hx]
  by_cases h : y ≤ j.toNat ∧ j.toNat < y + k
  · rw [if_pos (by omega), if_pos h, M.at_part (by omega)]
  · rw [if_neg (by omega), if_neg h]
theorem M.copy_len (m : M) (x y k : Nat) : (m.copy x y k).w.length = m.w.length := by rw [M.copy, M.tick_len, M.lay_len]
theorem M.copy_n (m : M) (x y k : Nat) : (m.copy x y k).n = IntKind.i64.wrap (m.n + 2 * (k : Int)) := by rw [M.copy]; simp only [M.tick, M.lay_n]
theorem M.fill_at (m : M) (a : Nat) (x : Int) (j : Int) (k : Nat) (h : a + k ≤ m.w.length) : (m.fill a x k).at j = if a ≤ j.toNat ∧ j.toNat < a + k then uw x else m.at j := by
  rw [M.at_fill]
  by_cases h1 : a ≤ j.toNat ∧ j.toNat < a + k
  · rw [if_pos (by omega), if_pos h1]
  · rw [if_neg (by omega), if_neg h1]
theorem M.tick_wrap (m : M) (j k : Int) : (m.tick j).n = IntKind.i64.wrap (m.n + j) := rfl
theorem wrap_add (a b c : Int) : IntKind.i64.wrap (IntKind.i64.wrap (a + b) + c) = IntKind.i64.wrap (a + (b + c)) := by
  rw [IntKind.wrap_i64, IntKind.wrap_i64, IntKind.wrap_i64]; omega
/-- Words alone. -/
theorem M.w_ext {m k : M} (hl : m.w.length = k.w.length) (h : ∀ i : Nat, i < m.w.length → m.at i = k.at i) : m.w = k.w := by
  refine List.ext_getElem hl fun i h1 h2 => ?_
  have := h i h1
  simp only [M.at, Int.toNat_natCast, nth_eq h1, nth_eq h2] at this
  exact this
/-- Halves. -/
theorem M.fill_halves {m : M} {a c k : Nat} {x : Int} (hk : c ≤ k) (h : a + k ≤ m.w.length) : ((((m.fill a x c).tick c).fill (a + c) x (k - c)).tick ((k - c : Nat) : Int)).w = ((m.fill a x k).tick k).w ∧ ((((m.fill a x c).tick c).fill (a + c) x (k - c)).tick ((k - c : Nat) : Int)).n = ((m.fill a x k).tick k).n := by
  refine ⟨M.w_ext (by simp only [M.tick_len, M.fill_len]) fun i hi => ?_, ?_⟩
  · simp only [M.tick_len, M.fill_len] at hi
    rw [M.at_tick, M.at_tick, M.fill_at _ _ _ _ _ (by rw [M.tick_len, M.fill_len]; omega), M.at_tick, M.fill_at _ _ _ _ _ (by omega), M.fill_at _ _ _ _ _ h]
    simp only [Int.toNat_natCast]
    by_cases h1 : a + c ≤ i ∧ i < a + c + (k - c)
    · rw [if_pos h1, if_pos (by omega)]
    · rw [if_neg h1]
      by_cases h2 : a ≤ i ∧ i < a + c
      · rw [if_pos h2, if_pos (by omega)]
      · rw [if_neg h2, if_neg (by omega)]
  · simp only [M.tick, M.fill_n]
    rw [wrap_add]
    congr 1; omega
theorem M.copy_halves {m : M} {x y c k : Nat} (hk : c ≤ k) (hx : x + k ≤ m.w.length) (hy : y + k ≤ m.w.length) (ha : y + k ≤ x ∨ x + k ≤ y) :
    ((m.copy x y c).copy (x + c) (y + c) (k - c)).w = (m.copy x y k).w ∧ ((m.copy x y c).copy (x + c) (y + c) (k - c)).n = (m.copy x y k).n := by
  refine ⟨M.w_ext (by simp only [M.copy_len]) fun i hi => ?_, ?_⟩
  · rw [M.at_copy _ _ _ _ _ (by rw [M.copy_len]; omega) (by rw [M.copy_len]; omega), M.at_copy _ _ _ _ _ (by omega) (by omega), M.at_copy _ _ _ _ _ (by omega) (by omega), M.at_copy _ _ _ _ _ hx hy]
    simp only [Int.toNat_natCast]
    by_cases h1 : y + c ≤ i ∧ i < y + c + (k - c)
    · rw [if_pos h1, if_neg (by omega), if_pos (by omega)]
      congr 2; omega
    · rw [if_neg h1]
      by_cases h2 : y ≤ i ∧ i < y + c
      · rw [if_pos h2, if_pos (by omega)]
      · rw [if_neg h2, if_neg (by omega)]
  · rw [M.copy_n, M.copy_n, M.copy_n, wrap_add]
    congr 1; omega

/-! ### the specs without choices -/
def M.copyE (m : M) (x y k : Int) : Int := if m.has x k && m.has y k then 0 else 20
def M.copyX (m : M) (x y k : Int) : M := if m.has x k && m.has y k then m.copy x.toNat y.toNat k.toNat else m
def M.fillE (m : M) (x k : Int) : Int := if m.has x k then 0 else 20
def M.fillX (m : M) (x k v : Int) : M := if m.has x k then (m.fill x.toNat v k.toNat).tick k else m
def M.readE (m : M) (x : Int) : Int := if m.has x 1 then 0 else 20
def M.readV (m : M) (x : Int) : Int := if m.has x 1 then m.at x else 0
def M.readX (m : M) (x : Int) : M := if m.has x 1 then m.tick 1 else m
def M.writeX (m : M) (x v : Int) : M := if m.has x 1 then (m.put x.toNat v).tick 1 else m
def copy2M (b : Nat) (m : M) (st : M → List Blk) : List V → Res
  | [.s (.i .i64 x), .s (.i .i64 y), .s (.i .i64 k)] => .ok (.s (.i .i64 (m.copyE x y k))) [] (st (m.copyX x y k))
  | _ => .bad
noncomputable def copy2G := memF copy2M
def fill2M (b : Nat) (m : M) (st : M → List Blk) : List V → Res
  | [.s (.i .i64 x), .s (.i .i64 k), .s (.i .u64 v)] => .ob (u64 v) (.ok (.s (.i .i64 (m.fillE x k))) [] (st (m.fillX x k v)))
  | _ => .bad
noncomputable def fill2G := memF fill2M
def read2M (b : Nat) (m : M) (st : M → List Blk) : List V → Res
  | [.s (.i .i64 x)] => .ok (.tup [.s (.i .u64 (m.readV x)), .s (.i .i64 (m.readE x))]) [] (st (m.readX x))
  | _ => .bad
noncomputable def read2G := memF read2M
def write2M (b : Nat) (m : M) (st : M → List Blk) : List V → Res
  | [.s (.i .i64 x), .s (.i .u64 v)] => .ob (u64 v) (.ok (.s (.i .i64 (m.readE x))) [] (st (m.writeX x v)))
  | _ => .bad
noncomputable def write2G := memF write2M
theorem copy2_snd : Snd Try.prog 28 (FSpec.of copy2G) := mcopy_snd.weaken fun args h K hc hS => by
  obtain ⟨a, b, m, rest, rfl, H, hS1⟩ := memF_spec hS
  unfold copy2M at hS1
  split at hS1
  · simp only [spec_ok, M.copyE, M.copyX] at hS1
    show Res.spec K (copyG _ h)
    rw [copyG, memF_eq H]
    simp only [copyM, spec_br, spec_ok]
    exact ⟨fun e => by simpa only [e, if_true] using hS1, fun e => by simpa only [e, Bool.false_eq_true, if_false] using hS1⟩
  · exact hS1.elim
theorem fill2_snd : Snd Try.prog 29 (FSpec.of fill2G) := mfill_snd.weaken fun args h K hc hS => by
  obtain ⟨a, b, m, rest, rfl, H, hS1⟩ := memF_spec hS
  unfold fill2M at hS1
  split at hS1
  · obtain ⟨hv, hS1⟩ := hS1
    simp only [spec_ok, M.fillE, M.fillX] at hS1
    show Res.spec K (fillG _ h)
    rw [fillG, memF_eq H]
    simp only [fillM, spec_ob, spec_br, spec_ok]
    exact ⟨hv, fun e => by simpa only [e, if_true] using hS1, fun e => by simpa only [e, Bool.false_eq_true, if_false] using hS1⟩
  · exact hS1.elim
theorem rfill2_snd : Snd Try.prog 62 (FSpec.of fill2G) := rfill_snd.weaken fun args h K hc hS => by
  obtain ⟨a, b, m, rest, rfl, H, hS1⟩ := memF_spec hS
  unfold fill2M at hS1
  split at hS1
  · obtain ⟨hv, hS1⟩ := hS1
    simp only [spec_ok, M.fillE, M.fillX] at hS1
    show Res.spec K (fillG _ h)
    rw [fillG, memF_eq H]
    simp only [fillM, spec_ob, spec_br, spec_ok]
    exact ⟨hv, fun e => by simpa only [e, if_true] using hS1, fun e => by simpa only [e, Bool.false_eq_true, if_false] using hS1⟩
  · exact hS1.elim
theorem read2_snd : Snd Try.prog 30 (FSpec.of read2G) := mread_snd.weaken fun args h K hc hS => by
  obtain ⟨a, b, m, rest, rfl, H, hS1⟩ := memF_spec hS
  unfold read2M at hS1
  split at hS1
  · simp only [spec_ok, M.readE, M.readX, M.readV] at hS1
    show Res.spec K (readG _ h)
    rw [readG, memF_eq H]
    simp only [readM, spec_br, spec_ok]
    exact ⟨fun e => by simpa only [e, if_true] using hS1, fun e => by simpa only [e, Bool.false_eq_true, if_false] using hS1⟩
  · exact hS1.elim
theorem rread2_snd : Snd Try.prog 44 (FSpec.of read2G) := rread_snd.weaken fun args h K hc hS => by
  obtain ⟨a, b, m, rest, rfl, H, hS1⟩ := memF_spec hS
  unfold read2M at hS1
  split at hS1
  · simp only [spec_ok, M.readE, M.readX, M.readV] at hS1
    show Res.spec K (readG _ h)
    rw [readG, memF_eq H]
    simp only [readM, spec_br, spec_ok]
    exact ⟨fun e => by simpa only [e, if_true] using hS1, fun e => by simpa only [e, Bool.false_eq_true, if_false] using hS1⟩
  · exact hS1.elim
theorem write2_snd : Snd Try.prog 24 (FSpec.of write2G) := mwrite_snd.weaken fun args h K hc hS => by
  obtain ⟨a, b, m, rest, rfl, H, hS1⟩ := memF_spec hS
  unfold write2M at hS1
  split at hS1
  · obtain ⟨hv, hS1⟩ := hS1
    simp only [spec_ok, M.readE, M.writeX] at hS1
    show Res.spec K (writeG _ h)
    rw [writeG, memF_eq H]
    simp only [writeM, spec_ob, spec_br, spec_ok]
    exact ⟨hv, fun e => by simpa only [e, if_true] using hS1, fun e => by simpa only [e, Bool.false_eq_true, if_false] using hS1⟩
  · exact hS1.elim
theorem rwrite2_snd : Snd Try.prog 61 (FSpec.of write2G) := rwrite_snd.weaken fun args h K hc hS => by
  obtain ⟨a, b, m, rest, rfl, H, hS1⟩ := memF_spec hS
  unfold write2M at hS1
  split at hS1
  · obtain ⟨hv, hS1⟩ := hS1
    simp only [spec_ok, M.readE, M.writeX] at hS1
    show Res.spec K (writeG _ h)
    rw [writeG, memF_eq H]
    simp only [writeM, spec_ob, spec_br, spec_ok]
    exact ⟨hv, fun e => by simpa only [e, if_true] using hS1, fun e => by simpa only [e, Bool.false_eq_true, if_false] using hS1⟩
  · exact hS1.elim
end Go.Proofs.Yteeeidldknlblaa

/- The machine's memory: the document's Copy and Dump. -/
namespace Go.Proofs.Yteeeidldknlblaa
open Go.D
set_option linter.all false
set_option maxRecDepth 100000
set_option maxHeartbeats 4000000

/-- So many words of a part, then noughts. -/
def M.pz (m : M) (x q k : Nat) : List Int := m.part x q ++ List.replicate (k - q) 0
theorem M.pz_len {m : M} {x q k : Nat} (h : x + k ≤ m.w.length) (hq : q ≤ k) : (m.pz x q k).length = k := by
  rw [M.pz, List.length_append, M.part_len (by omega), List.length_replicate]; omega
theorem M.pz_0 (m : M) (x k : Nat) : m.pz x 0 k = List.replicate k 0 := by simp [M.pz, M.part]
theorem M.pz_all (m : M) (x k : Nat) : m.pz x k k = m.part x k := by simp [M.pz]
theorem M.part_snoc {m : M} {x q : Nat} (h : x + q < m.w.length) : m.part x (q + 1) = m.part x q ++ [m.at ((x + q : Nat) : Int)] := by
  unfold M.part
  rw [List.take_succ_eq_append_getElem (by simp; omega)]
  simp only [List.getElem_drop, M.at, Int.toNat_natCast, nth_eq h]
theorem M.pz_set {m : M} {x q k : Nat} (h : x + k ≤ m.w.length) (hq : q < k) : (wc (m.pz x q k)).set q (.i .u64 (m.at ((x + q : Nat) : Int))) = wc (m.pz x (q + 1) k) := by
  rw [wc_set]
  congr 1
  unfold M.pz
  have hl := M.part_len (m := m) (x := x) (k := q) (by omega)
  rw [List.set_append_right _ _ (by omega), hl, Nat.sub_self, M.part_snoc (by omega), show k - q = (k - (q + 1)) + 1 by omega, List.replicate_succ, List.set_cons_zero]
  simp

theorem rcopy_snd : Snd Try.prog 63 (FSpec.of copyG) := snd_run TSp_snd mixed Try.func63 dc63 100 fun args h K hc hS => by
  obtain ⟨a, b, m, rest, rfl, H, hS1⟩ := memF_spec hS
  clear hS
  have hS := hS1
  clear hS1
  unfold copyM at hS
  split at hS
  · rename_i x y k
    simp only [spec_ok, spec_br, setM_self H] at hS
    have hl := m.l
    cases hx : m.has x k with
    | false =>
      have hS := hS.2 (by rw [hx]; rfl)
      cases hy : m.has y k <;> simp (config := { maxSteps := 10000000 }) only [EV1, EV2, EV3, EV4, EV5, EV6, addT, istep, lenR_sl, lenR_ns, lenR_es, pickR, putD, bin1R, un1R, slcR, bnd, capsOf, fillP, S_plain, V_plain, V.cells, S_known, V_known, C.v, blk, setL, setH, eqS, eq1, cmpS, cmp1, isNil, popTo, killT, setT, leT, V.below, C.below, S_below, R.below, V.val, C.val, S_val, R.val, R.takes, vals, shows, List.any_cons, List.any_nil, unnamed, V.kill, V.names, C.names, S_names, R.names, List.set, List.replicate, ↓q_cond_t, ↓q_cond_f, if_true, if_false, reduceCtorEq, rvals, rvC, result, C_known, V.noL, C.noL, S_noL, R.noL, Option.map, true_and, and_true, ge_iff_le, gt_iff_lt, implies_true, q_ite_t, q_ite_f, beq_iff_eq, bne_iff_ne, q_ne, Nat.reduceAdd, Nat.reducePow, Int.reducePow, Nat.reduceMul, Nat.reduceSub, Nat.reduceLeDiff, Nat.reduceLT, Nat.reduceEqDiff, Int.reduceNeg, Int.reduceLT, Int.reduceLE, Int.reduceEq, Int.reduceNe, Int.reduceAdd, Int.reduceSub, Int.reduceMul, Int.reduceToNat, Int.reduceBEq, Int.reduceBNe, df63, TSp, thereG, memF_eq H, thereM, setM_self H, hx, hy]
      all_goals exact hS
    | true =>
      cases hy : m.has y k with
      | false =>
        have hS := hS.2 (by rw [hx, hy]; rfl)
        simp (config := { maxSteps := 10000000 }) only [EV1, EV2, EV3, EV4, EV5, EV6, addT, istep, lenR_sl, lenR_ns, lenR_es, pickR, putD, bin1R, un1R, slcR, bnd, capsOf, fillP, S_plain, V_plain, V.cells, S_known, V_known, C.v, blk, setL, setH, eqS, eq1, cmpS, cmp1, isNil, popTo, killT, setT, leT, V.below, C.below, S_below, R.below, V.val, C.val, S_val, R.val, R.takes, vals, shows, List.any_cons, List.any_nil, unnamed, V.kill, V.names, C.names, S_names, R.names, List.set, List.replicate, ↓q_cond_t, ↓q_cond_f, if_true, if_false, reduceCtorEq, rvals, rvC, result, C_known, V.noL, C.noL, S_noL, R.noL, Option.map, true_and, and_true, ge_iff_le, gt_iff_lt, implies_true, q_ite_t, q_ite_f, beq_iff_eq, bne_iff_ne, q_ne, Nat.reduceAdd, Nat.reducePow, Int.reducePow, Nat.reduceMul, Nat.reduceSub, Nat.reduceLeDiff, Nat.reduceLT, Nat.reduceEqDiff, Int.reduceNeg, Int.reduceLT, Int.reduceLE, Int.reduceEq, Int.reduceNe, Int.reduceAdd, Int.reduceSub, Int.reduceMul, Int.reduceToNat, Int.reduceBEq, Int.reduceBNe, df63, TSp, thereG, memF_eq H, thereM, setM_self H, hx, hy]
        exact hS
      | true =>
        have hS := hS.1 (by rw [hx, hy]; rfl)
        obtain ⟨i, n, rfl, rfl, hin⟩ := M.has_nat hx
        obtain ⟨j, n', rfl, e, hjn⟩ := M.has_nat hy
        have e : n = n' := by omega
        subst e
        simp only [Int.toNat_natCast] at hS
        have c3 : (0 : Int) ≤ n := by omega
        have c4 : (n : Int) ≤ 1099511627776 := by omega
        have c5 : (8 : Int) * (n : Int) ≤ 281474976710656 := by omega
        have hpl := M.part_len hin
        simp (config := { maxSteps := 10000000 }) only [EV1, EV2, EV3, EV4, EV5, EV6, addT, istep, lenR_sl, lenR_ns, lenR_es, pickR, putD, bin1R, un1R, slcR, bnd, capsOf, fillP, S_plain, V_plain, V.cells, S_known, V_known, C.v, blk, setL, setH, eqS, eq1, cmpS, cmp1, isNil, popTo, killT, setT, leT, V.below, C.below, S_below, R.below, V.val, C.val, S_val, R.val, R.takes, vals, shows, List.any_cons, List.any_nil, unnamed, V.kill, V.names, C.names, S_names, R.names, List.set, List.replicate, ↓q_cond_t, ↓q_cond_f, if_true, if_false, reduceCtorEq, rvals, rvC, result, C_known, V.noL, C.noL, S_noL, R.noL, Option.map, true_and, and_true, ge_iff_le, gt_iff_lt, implies_true, q_ite_t, q_ite_f, beq_iff_eq, bne_iff_ne, q_ne, Nat.reduceAdd, Nat.reducePow, Int.reducePow, Nat.reduceMul, Nat.reduceSub, Nat.reduceLeDiff, Nat.reduceLT, Nat.reduceEqDiff, Int.reduceNeg, Int.reduceLT, Int.reduceLE, Int.reduceEq, Int.reduceNe, Int.reduceAdd, Int.reduceSub, Int.reduceMul, Int.reduceToNat, Int.reduceBEq, Int.reduceBNe, df63, TSp, thereG, memF_eq H, thereM, setM_self H, hx, hy, c3, Int.le_refl, c4, c5, wc_zeros, Int.toNat_natCast]
        refine loop_rule (α := Nat) [12, 30, 31, 32, 33, 34, 35, 36, 37, 38, 39, 40, 41, 42, 43, 44, 45, 46] (fun q => [(12, .s (.i .i64 q))]) (fun q => [⟨.rw, wc (m.pz i q n), n⟩]) (fun q => h) (fun q => q ≤ n) (fun q => n - q) 0 (by omega) ?_ ?_
        · rw [M.pz_0]
          refine Wk.same (by simp [wc_len]) rfl ?_
          simp (config := { maxSteps := 10000000 }) only [EV1, EV2, EV3, EV4, EV5, EV6, addT, istep, lenR_sl, lenR_ns, lenR_es, pickR, putD, bin1R, un1R, slcR, bnd, capsOf, fillP, S_plain, V_plain, V.cells, S_known, V_known, C.v, blk, setL, setH, eqS, eq1, cmpS, cmp1, isNil, popTo, killT, setT, leT, V.below, C.below, S_below, R.below, V.val, C.val, S_val, R.val, R.takes, vals, shows, List.any_cons, List.any_nil, unnamed, V.kill, V.names, C.names, S_names, R.names, List.set, List.replicate, ↓q_cond_t, ↓q_cond_f, if_true, if_false, reduceCtorEq, rvals, rvC, result, C_known, V.noL, C.noL, S_noL, R.noL, Option.map, true_and, and_true, ge_iff_le, gt_iff_lt, implies_true, q_ite_t, q_ite_f, beq_iff_eq, bne_iff_ne, q_ne, Nat.reduceAdd, Nat.reducePow, Int.reducePow, Nat.reduceMul, Nat.reduceSub, Nat.reduceLeDiff, Nat.reduceLT, Nat.reduceEqDiff, Int.reduceNeg, Int.reduceLT, Int.reduceLE, Int.reduceEq, Int.reduceNe, Int.reduceAdd, Int.reduceSub, Int.reduceMul, Int.reduceToNat, Int.reduceBEq, Int.reduceBNe, q_cast, Int.natCast_zero]
        · rintro X q hq IH
          rcases Nat.lt_or_ge q n with h1 | h1
          · obtain ⟨d1, d2, d3, d4⟩ := idx h1 (by omega)
            have w1 : IntKind.i64.wrap ((i : Int) + q) = ((i + q : Nat) : Int) := by rw [wrap64] <;> omega
            have d5 : ((i + q : Nat) : Int) < m.w.length := by omega
            have d6 : (0 : Int) ≤ ((i + q : Nat) : Int) := by omega
            have g := wc_get (w := m.w) (i := i + q) (by omega)
            have g1 : nth 0 m.w (i + q) = m.at ((i + q : Nat) : Int) := by simp only [M.at, Int.toNat_natCast]
            have c6 : q + 1 ≤ (wc (m.pz i q n)).length := by rw [wc_len, M.pz_len hin hq]; omega
            have c7 := M.pz_set hin h1
            rw [g1] at g
            refine run_sound (Tab.ok_Γ _) 100 _ _ _ _ ?_
            simp (config := { maxSteps := 10000000 }) only [EV1, EV2, EV3, EV4, EV5, EV6, addT, istep, lenR_sl, lenR_ns, lenR_es, pickR, putD, bin1R, un1R, slcR, bnd, capsOf, fillP, S_plain, V_plain, V.cells, S_known, V_known, C.v, blk, setL, setH, eqS, eq1, cmpS, cmp1, isNil, popTo, killT, setT, leT, V.below, C.below, S_below, R.below, V.val, C.val, S_val, R.val, R.takes, vals, shows, List.any_cons, List.any_nil, unnamed, V.kill, V.names, C.names, S_names, R.names, List.set, List.replicate, ↓q_cond_t, ↓q_cond_f, if_true, if_false, reduceCtorEq, rvals, rvC, result, C_known, V.noL, C.noL, S_noL, R.noL, Option.map, true_and, and_true, ge_iff_le, gt_iff_lt, implies_true, q_ite_t, q_ite_f, beq_iff_eq, bne_iff_ne, q_ne, Nat.reduceAdd, Nat.reducePow, Int.reducePow, Nat.reduceMul, Nat.reduceSub, Nat.reduceLeDiff, Nat.reduceLT, Nat.reduceEqDiff, Int.reduceNeg, Int.reduceLT, Int.reduceLE, Int.reduceEq, Int.reduceNe, Int.reduceAdd, Int.reduceSub, Int.reduceMul, Int.reduceToNat, Int.reduceBEq, Int.reduceBNe, d1, d2, d3, d4, d5, d6, w1, H.ha, H.hb, MB, MW, g, c6, c7, Int.toNat_natCast, put]
            exact IH (q + 1) _ (by omega) (by omega) (Wk.same rfl rfl (by simp (config := { maxSteps := 10000000 }) only [EV1, EV2, EV3, EV4, EV5, EV6, addT, istep, lenR_sl, lenR_ns, lenR_es, pickR, putD, bin1R, un1R, slcR, bnd, capsOf, fillP, S_plain, V_plain, V.cells, S_known, V_known, C.v, blk, setL, setH, eqS, eq1, cmpS, cmp1, isNil, popTo, killT, setT, leT, V.below, C.below, S_below, R.below, V.val, C.val, S_val, R.val, R.takes, vals, shows, List.any_cons, List.any_nil, unnamed, V.kill, V.names, C.names, S_names, R.names, List.set, List.replicate, ↓q_cond_t, ↓q_cond_f, if_true, if_false, reduceCtorEq, rvals, rvC, result, C_known, V.noL, C.noL, S_noL, R.noL, Option.map, true_and, and_true, ge_iff_le, gt_iff_lt, implies_true, q_ite_t, q_ite_f, beq_iff_eq, bne_iff_ne, q_ne, Nat.reduceAdd, Nat.reducePow, Int.reducePow, Nat.reduceMul, Nat.reduceSub, Nat.reduceLeDiff, Nat.reduceLT, Nat.reduceEqDiff, Int.reduceNeg, Int.reduceLT, Int.reduceLE, Int.reduceEq, Int.reduceNe, Int.reduceAdd, Int.reduceSub, Int.reduceMul, Int.reduceToNat, Int.reduceBEq, Int.reduceBNe]))
          · have : q = n := by omega
            subst this
            refine run_sound (Tab.ok_Γ _) 100 _ _ _ _ ?_
            simp (config := { maxSteps := 10000000 }) only [EV1, EV2, EV3, EV4, EV5, EV6, addT, istep, lenR_sl, lenR_ns, lenR_es, pickR, putD, bin1R, un1R, slcR, bnd, capsOf, fillP, S_plain, V_plain, V.cells, S_known, V_known, C.v, blk, setL, setH, eqS, eq1, cmpS, cmp1, isNil, popTo, killT, setT, leT, V.below, C.below, S_below, R.below, V.val, C.val, S_val, R.val, R.takes, vals, shows, List.any_cons, List.any_nil, unnamed, V.kill, V.names, C.names, S_names, R.names, List.set, List.replicate, ↓q_cond_t, ↓q_cond_f, if_true, if_false, reduceCtorEq, rvals, rvC, result, C_known, V.noL, C.noL, S_noL, R.noL, Option.map, true_and, and_true, ge_iff_le, gt_iff_lt, implies_true, q_ite_t, q_ite_f, beq_iff_eq, bne_iff_ne, q_ne, Nat.reduceAdd, Nat.reducePow, Int.reducePow, Nat.reduceMul, Nat.reduceSub, Nat.reduceLeDiff, Nat.reduceLT, Nat.reduceEqDiff, Int.reduceNeg, Int.reduceLT, Int.reduceLE, Int.reduceEq, Int.reduceNe, Int.reduceAdd, Int.reduceSub, Int.reduceMul, Int.reduceToNat, Int.reduceBEq, Int.reduceBNe, Int.lt_irrefl]
            refine loop_rule (α := Nat) [13, 47, 48, 49, 50, 51, 52, 53, 54, 55, 56, 57, 58, 59, 60, 61, 62, 63] (fun p => [(13, .s (.i .i64 p))]) (fun p => [⟨.rw, wc (m.pz i q q), q⟩]) (fun p => h.set b ⟨.rw, wc (m.lay j ((m.part i q).take p)).w, m.w.length⟩) (fun p => p ≤ q) (fun p => q - p) 0 (by omega) ?_ ?_
            · simp only [List.take_zero, M.lay]
              rw [show (⟨.rw, wc m.w, m.w.length⟩ : Blk) = MW m from rfl, set_self H.hb]
              refine Wk.less ?_
              simp (config := { maxSteps := 10000000 }) only [EV1, EV2, EV3, EV4, EV5, EV6, addT, istep, lenR_sl, lenR_ns, lenR_es, pickR, putD, bin1R, un1R, slcR, bnd, capsOf, fillP, S_plain, V_plain, V.cells, S_known, V_known, C.v, blk, setL, setH, eqS, eq1, cmpS, cmp1, isNil, popTo, killT, setT, leT, V.below, C.below, S_below, R.below, V.val, C.val, S_val, R.val, R.takes, vals, shows, List.any_cons, List.any_nil, unnamed, V.kill, V.names, C.names, S_names, R.names, List.set, List.replicate, ↓q_cond_t, ↓q_cond_f, if_true, if_false, reduceCtorEq, rvals, rvC, result, C_known, V.noL, C.noL, S_noL, R.noL, Option.map, true_and, and_true, ge_iff_le, gt_iff_lt, implies_true, q_ite_t, q_ite_f, beq_iff_eq, bne_iff_ne, q_ne, Nat.reduceAdd, Nat.reducePow, Int.reducePow, Nat.reduceMul, Nat.reduceSub, Nat.reduceLeDiff, Nat.reduceLT, Nat.reduceEqDiff, Int.reduceNeg, Int.reduceLT, Int.reduceLE, Int.reduceEq, Int.reduceNe, Int.reduceAdd, Int.reduceSub, Int.reduceMul, Int.reduceToNat, Int.reduceBEq, Int.reduceBNe, q_cast, Int.natCast_zero]
            · intro Y p hp IH
              rcases Nat.lt_or_ge p q with h1 | h1
              · obtain ⟨d1, d2, d3, d4⟩ := idx h1 (by omega)
                have c3 : (h.set b ⟨BK.rw, wc (m.lay j ((m.part i q).take p)).w, m.w.length⟩)[b]? = some ⟨BK.rw, wc (m.lay j ((m.part i q).take p)).w, m.w.length⟩ := set_hit H.hb
                have c4 : j + p + 1 ≤ (wc (m.lay j ((m.part i q).take p)).w).length := by rw [wc_len, M.lay_len]; omega
                have hv : u64 (nth 0 (m.part i q) p) := M.part_u _ (nth_mem (by omega))
                have g : (wc (m.pz i q q))[p]? = some (.i .u64 (nth 0 (m.part i q) p)) := by rw [M.pz_all, wc_get (by omega)]
                have c5 : ((wc (m.lay j ((m.part i q).take p)).w).set (j + p) (S.i .u64 (nth 0 (m.part i q) p))) = wc (m.lay j ((m.part i q).take (p + 1))).w := by
                  rw [wc_set, take_snoc (by omega), M.lay_snoc, show ((m.part i q).take p).length = p by simp; omega]; simp only [M.put, uw_of hv]
                have ha := H.ha'
                have w1 : IntKind.i64.wrap ((j : Int) + p) = ((j + p : Nat) : Int) := by rw [wrap64] <;> omega
                have d5 : ((j + p : Nat) : Int) < m.w.length := by omega
                have d6 : (0 : Int) ≤ ((j + p : Nat) : Int) := by omega
                refine run_sound (Tab.ok_Γ _) 100 _ _ _ _ ?_
                simp (config := { maxSteps := 10000000 }) only [EV1, EV2, EV3, EV4, EV5, EV6, addT, istep, lenR_sl, lenR_ns, lenR_es, pickR, putD, bin1R, un1R, slcR, bnd, capsOf, fillP, S_plain, V_plain, V.cells, S_known, V_known, C.v, blk, setL, setH, eqS, eq1, cmpS, cmp1, isNil, popTo, killT, setT, leT, V.below, C.below, S_below, R.below, V.val, C.val, S_val, R.val, R.takes, vals, shows, List.any_cons, List.any_nil, unnamed, V.kill, V.names, C.names, S_names, R.names, List.set, List.replicate, ↓q_cond_t, ↓q_cond_f, if_true, if_false, reduceCtorEq, rvals, rvC, result, C_known, V.noL, C.noL, S_noL, R.noL, Option.map, true_and, and_true, ge_iff_le, gt_iff_lt, implies_true, q_ite_t, q_ite_f, beq_iff_eq, bne_iff_ne, q_ne, Nat.reduceAdd, Nat.reducePow, Int.reducePow, Nat.reduceMul, Nat.reduceSub, Nat.reduceLeDiff, Nat.reduceLT, Nat.reduceEqDiff, Int.reduceNeg, Int.reduceLT, Int.reduceLE, Int.reduceEq, Int.reduceNe, Int.reduceAdd, Int.reduceSub, Int.reduceMul, Int.reduceToNat, Int.reduceBEq, Int.reduceBNe, d1, d2, d3, d4, d5, d6, w1, c3, ha, MB, g, c4, Int.toNat_natCast, put, c5, List.set_set]
                exact IH (p + 1) _ (by omega) (by omega) (Wk.same rfl rfl (by simp (config := { maxSteps := 10000000 }) only [EV1, EV2, EV3, EV4, EV5, EV6, addT, istep, lenR_sl, lenR_ns, lenR_es, pickR, putD, bin1R, un1R, slcR, bnd, capsOf, fillP, S_plain, V_plain, V.cells, S_known, V_known, C.v, blk, setL, setH, eqS, eq1, cmpS, cmp1, isNil, popTo, killT, setT, leT, V.below, C.below, S_below, R.below, V.val, C.val, S_val, R.val, R.takes, vals, shows, List.any_cons, List.any_nil, unnamed, V.kill, V.names, C.names, S_names, R.names, List.set, List.replicate, ↓q_cond_t, ↓q_cond_f, if_true, if_false, reduceCtorEq, rvals, rvC, result, C_known, V.noL, C.noL, S_noL, R.noL, Option.map, true_and, and_true, ge_iff_le, gt_iff_lt, implies_true, q_ite_t, q_ite_f, beq_iff_eq, bne_iff_ne, q_ne, Nat.reduceAdd, Nat.reducePow, Int.reducePow, Nat.reduceMul, Nat.reduceSub, Nat.reduceLeDiff, Nat.reduceLT, Nat.reduceEqDiff, Int.reduceNeg, Int.reduceLT, Int.reduceLE, Int.reduceEq, Int.reduceNe, Int.reduceAdd, Int.reduceSub, Int.reduceMul, Int.reduceToNat, Int.reduceBEq, Int.reduceBNe]))
              · have : p = q := by omega
                subst this
                have ha := H.ha'
                have w1 : IntKind.i64.wrap (2 * (p : Int)) = 2 * (p : Int) := wrap64 (by omega) (by omega)
                refine run_sound (Tab.ok_Γ _) 100 _ _ _ _ ?_
                simp (config := { maxSteps := 10000000 }) only [EV1, EV2, EV3, EV4, EV5, EV6, addT, istep, lenR_sl, lenR_ns, lenR_es, pickR, putD, bin1R, un1R, slcR, bnd, capsOf, fillP, S_plain, V_plain, V.cells, S_known, V_known, C.v, blk, setL, setH, eqS, eq1, cmpS, cmp1, isNil, popTo, killT, setT, leT, V.below, C.below, S_below, R.below, V.val, C.val, S_val, R.val, R.takes, vals, shows, List.any_cons, List.any_nil, unnamed, V.kill, V.names, C.names, S_names, R.names, List.set, List.replicate, ↓q_cond_t, ↓q_cond_f, if_true, if_false, reduceCtorEq, rvals, rvC, result, C_known, V.noL, C.noL, S_noL, R.noL, Option.map, true_and, and_true, ge_iff_le, gt_iff_lt, implies_true, q_ite_t, q_ite_f, beq_iff_eq, bne_iff_ne, q_ne, Nat.reduceAdd, Nat.reducePow, Int.reducePow, Nat.reduceMul, Nat.reduceSub, Nat.reduceLeDiff, Nat.reduceLT, Nat.reduceEqDiff, Int.reduceNeg, Int.reduceLT, Int.reduceLE, Int.reduceEq, Int.reduceNe, Int.reduceAdd, Int.reduceSub, Int.reduceMul, Int.reduceToNat, Int.reduceBEq, Int.reduceBNe, Int.lt_irrefl, ha, MB, w1]
                refine cast (congrArg (K _) ?_) hS
                simp only [setM, M.copy]
                rw [List.set_comm _ _ H.ne, List.take_of_length_le (by omega)]
                simp only [MW, MB, M.tick, M.lay_len, M.lay_n]
  · exact hS.elim

theorem rdump_snd : Snd Try.prog 64 (FSpec.of dumpG) := snd_run TSp_snd mixed Try.func64 dc64 100 fun args h K hc hS => by
  obtain ⟨a, b, m, rest, rfl, H, hS1⟩ := memF_spec hS
  clear hS
  have hS := hS1
  clear hS1
  unfold dumpM at hS
  split at hS
  · rename_i x k
    simp only [spec_ok, spec_br, spec_all, setM_self H] at hS
    have hl := m.l
    cases hh : m.has x k with
    | true =>
      have hS := hS.1 hh
      obtain ⟨i, n, rfl, rfl, hin⟩ := M.has_nat hh
      simp only [Int.toNat_natCast] at hS
      have hS := hS n (Nat.le_refl _)
      have c3 : (0 : Int) ≤ n := by omega
      have c4 : (n : Int) ≤ 1099511627776 := by omega
      have c5 : (8 : Int) * (n : Int) ≤ 281474976710656 := by omega
      simp (config := { maxSteps := 10000000 }) only [EV1, EV2, EV3, EV4, EV5, EV6, addT, istep, lenR_sl, lenR_ns, lenR_es, pickR, putD, bin1R, un1R, slcR, bnd, capsOf, fillP, S_plain, V_plain, V.cells, S_known, V_known, C.v, blk, setL, setH, eqS, eq1, cmpS, cmp1, isNil, popTo, killT, setT, leT, V.below, C.below, S_below, R.below, V.val, C.val, S_val, R.val, R.takes, vals, shows, List.any_cons, List.any_nil, unnamed, V.kill, V.names, C.names, S_names, R.names, List.set, List.replicate, ↓q_cond_t, ↓q_cond_f, if_true, if_false, reduceCtorEq, rvals, rvC, result, C_known, V.noL, C.noL, S_noL, R.noL, Option.map, true_and, and_true, ge_iff_le, gt_iff_lt, implies_true, q_ite_t, q_ite_f, beq_iff_eq, bne_iff_ne, q_ne, Nat.reduceAdd, Nat.reducePow, Int.reducePow, Nat.reduceMul, Nat.reduceSub, Nat.reduceLeDiff, Nat.reduceLT, Nat.reduceEqDiff, Int.reduceNeg, Int.reduceLT, Int.reduceLE, Int.reduceEq, Int.reduceNe, Int.reduceAdd, Int.reduceSub, Int.reduceMul, Int.reduceToNat, Int.reduceBEq, Int.reduceBNe, df64, TSp, thereG, memF_eq H, thereM, setM_self H, hh, c3, Int.le_refl, c4, c5, wc_zeros, Int.toNat_natCast]
      refine loop_rule (α := Nat) [10, 19, 20, 21, 22, 23, 24, 25, 26, 27, 28, 29, 30, 31, 32, 33, 34, 35] (fun q => [(10, .s (.i .i64 q))]) (fun q => [⟨.rw, wc (m.pz i q n), n⟩]) (fun q => h) (fun q => q ≤ n) (fun q => n - q) 0 (by omega) ?_ ?_
      · rw [M.pz_0]
        refine Wk.same (by simp [wc_len]) rfl ?_
        simp (config := { maxSteps := 10000000 }) only [EV1, EV2, EV3, EV4, EV5, EV6, addT, istep, lenR_sl, lenR_ns, lenR_es, pickR, putD, bin1R, un1R, slcR, bnd, capsOf, fillP, S_plain, V_plain, V.cells, S_known, V_known, C.v, blk, setL, setH, eqS, eq1, cmpS, cmp1, isNil, popTo, killT, setT, leT, V.below, C.below, S_below, R.below, V.val, C.val, S_val, R.val, R.takes, vals, shows, List.any_cons, List.any_nil, unnamed, V.kill, V.names, C.names, S_names, R.names, List.set, List.replicate, ↓q_cond_t, ↓q_cond_f, if_true, if_false, reduceCtorEq, rvals, rvC, result, C_known, V.noL, C.noL, S_noL, R.noL, Option.map, true_and, and_true, ge_iff_le, gt_iff_lt, implies_true, q_ite_t, q_ite_f, beq_iff_eq, bne_iff_ne, q_ne, Nat.reduceAdd, Nat.reducePow, Int.reducePow, Nat.reduceMul, Nat.reduceSub, Nat.reduceLeDiff, Nat.reduceLT, Nat.reduceEqDiff, Int.reduceNeg, Int.reduceLT, Int.reduceLE, Int.reduceEq, Int.reduceNe, Int.reduceAdd, Int.reduceSub, Int.reduceMul, Int.reduceToNat, Int.reduceBEq, Int.reduceBNe, q_cast, Int.natCast_zero]
      · rintro X q hq IH
        rcases Nat.lt_or_ge q n with h1 | h1
        · obtain ⟨d1, d2, d3, d4⟩ := idx h1 (by omega)
          have w1 : IntKind.i64.wrap ((i : Int) + q) = ((i + q : Nat) : Int) := by rw [wrap64] <;> omega
          have d5 : ((i + q : Nat) : Int) < m.w.length := by omega
          have d6 : (0 : Int) ≤ ((i + q : Nat) : Int) := by omega
          have g := wc_get (w := m.w) (i := i + q) (by omega)
          have g1 : nth 0 m.w (i + q) = m.at ((i + q : Nat) : Int) := by simp only [M.at, Int.toNat_natCast]
          have c6 : q + 1 ≤ (wc (m.pz i q n)).length := by rw [wc_len, M.pz_len hin hq]; omega
          have c7 := M.pz_set hin h1
          rw [g1] at g
          refine run_sound (Tab.ok_Γ _) 100 _ _ _ _ ?_
          simp (config := { maxSteps := 10000000 }) only [EV1, EV2, EV3, EV4, EV5, EV6, addT, istep, lenR_sl, lenR_ns, lenR_es, pickR, putD, bin1R, un1R, slcR, bnd, capsOf, fillP, S_plain, V_plain, V.cells, S_known, V_known, C.v, blk, setL, setH, eqS, eq1, cmpS, cmp1, isNil, popTo, killT, setT, leT, V.below, C.below, S_below, R.below, V.val, C.val, S_val, R.val, R.takes, vals, shows, List.any_cons, List.any_nil, unnamed, V.kill, V.names, C.names, S_names, R.names, List.set, List.replicate, ↓q_cond_t, ↓q_cond_f, if_true, if_false, reduceCtorEq, rvals, rvC, result, C_known, V.noL, C.noL, S_noL, R.noL, Option.map, true_and, and_true, ge_iff_le, gt_iff_lt, implies_true, q_ite_t, q_ite_f, beq_iff_eq, bne_iff_ne, q_ne, Nat.reduceAdd, Nat.reducePow, Int.reducePow, Nat.reduceMul, Nat.reduceSub, Nat.reduceLeDiff, Nat.reduceLT, Nat.reduceEqDiff, Int.reduceNeg, Int.reduceLT, Int.reduceLE, Int.reduceEq, Int.reduceNe, Int.reduceAdd, Int.reduceSub, Int.reduceMul, Int.reduceToNat, Int.reduceBEq, Int.reduceBNe, d1, d2, d3, d4, d5, d6, w1, H.ha, H.hb, MB, MW, g, c6, c7, Int.toNat_natCast, put]
          exact IH (q + 1) _ (by omega) (by omega) (Wk.same rfl rfl (by simp (config := { maxSteps := 10000000 }) only [EV1, EV2, EV3, EV4, EV5, EV6, addT, istep, lenR_sl, lenR_ns, lenR_es, pickR, putD, bin1R, un1R, slcR, bnd, capsOf, fillP, S_plain, V_plain, V.cells, S_known, V_known, C.v, blk, setL, setH, eqS, eq1, cmpS, cmp1, isNil, popTo, killT, setT, leT, V.below, C.below, S_below, R.below, V.val, C.val, S_val, R.val, R.takes, vals, shows, List.any_cons, List.any_nil, unnamed, V.kill, V.names, C.names, S_names, R.names, List.set, List.replicate, ↓q_cond_t, ↓q_cond_f, if_true, if_false, reduceCtorEq, rvals, rvC, result, C_known, V.noL, C.noL, S_noL, R.noL, Option.map, true_and, and_true, ge_iff_le, gt_iff_lt, implies_true, q_ite_t, q_ite_f, beq_iff_eq, bne_iff_ne, q_ne, Nat.reduceAdd, Nat.reducePow, Int.reducePow, Nat.reduceMul, Nat.reduceSub, Nat.reduceLeDiff, Nat.reduceLT, Nat.reduceEqDiff, Int.reduceNeg, Int.reduceLT, Int.reduceLE, Int.reduceEq, Int.reduceNe, Int.reduceAdd, Int.reduceSub, Int.reduceMul, Int.reduceToNat, Int.reduceBEq, Int.reduceBNe]))
        · have : q = n := by omega
          subst this
          refine run_sound (Tab.ok_Γ _) 100 _ _ _ _ ?_
          simp (config := { maxSteps := 10000000 }) only [EV1, EV2, EV3, EV4, EV5, EV6, addT, istep, lenR_sl, lenR_ns, lenR_es, pickR, putD, bin1R, un1R, slcR, bnd, capsOf, fillP, S_plain, V_plain, V.cells, S_known, V_known, C.v, blk, setL, setH, eqS, eq1, cmpS, cmp1, isNil, popTo, killT, setT, leT, V.below, C.below, S_below, R.below, V.val, C.val, S_val, R.val, R.takes, vals, shows, List.any_cons, List.any_nil, unnamed, V.kill, V.names, C.names, S_names, R.names, List.set, List.replicate, ↓q_cond_t, ↓q_cond_f, if_true, if_false, reduceCtorEq, rvals, rvC, result, C_known, V.noL, C.noL, S_noL, R.noL, Option.map, true_and, and_true, ge_iff_le, gt_iff_lt, implies_true, q_ite_t, q_ite_f, beq_iff_eq, bne_iff_ne, q_ne, Nat.reduceAdd, Nat.reducePow, Int.reducePow, Nat.reduceMul, Nat.reduceSub, Nat.reduceLeDiff, Nat.reduceLT, Nat.reduceEqDiff, Int.reduceNeg, Int.reduceLT, Int.reduceLE, Int.reduceEq, Int.reduceNe, Int.reduceAdd, Int.reduceSub, Int.reduceMul, Int.reduceToNat, Int.reduceBEq, Int.reduceBNe, Int.lt_irrefl]
          refine ⟨[0], by simp, rfl, ?_⟩
          simp only [getAll, List.getElem?_cons_zero]
          refine ⟨?_, ?_⟩
          · simp [wc_kept]
          · refine cast (congrArg (K _) ?_) hS
            simp [Blk.ren, wc_ren, M.pz_all, M.part]
    | false =>
      have hS := hS.2 hh
      simp (config := { maxSteps := 10000000 }) only [EV1, EV2, EV3, EV4, EV5, EV6, addT, istep, lenR_sl, lenR_ns, lenR_es, pickR, putD, bin1R, un1R, slcR, bnd, capsOf, fillP, S_plain, V_plain, V.cells, S_known, V_known, C.v, blk, setL, setH, eqS, eq1, cmpS, cmp1, isNil, popTo, killT, setT, leT, V.below, C.below, S_below, R.below, V.val, C.val, S_val, R.val, R.takes, vals, shows, List.any_cons, List.any_nil, unnamed, V.kill, V.names, C.names, S_names, R.names, List.set, List.replicate, ↓q_cond_t, ↓q_cond_f, if_true, if_false, reduceCtorEq, rvals, rvC, result, C_known, V.noL, C.noL, S_noL, R.noL, Option.map, true_and, and_true, ge_iff_le, gt_iff_lt, implies_true, q_ite_t, q_ite_f, beq_iff_eq, bne_iff_ne, q_ne, Nat.reduceAdd, Nat.reducePow, Int.reducePow, Nat.reduceMul, Nat.reduceSub, Nat.reduceLeDiff, Nat.reduceLT, Nat.reduceEqDiff, Int.reduceNeg, Int.reduceLT, Int.reduceLE, Int.reduceEq, Int.reduceNe, Int.reduceAdd, Int.reduceSub, Int.reduceMul, Int.reduceToNat, Int.reduceBEq, Int.reduceBNe, df64, TSp, thereG, memF_eq H, thereM, setM_self H, hh]
      exact hS
  · exact hS.elim
end Go.Proofs.Yteeeidldknlblaa

/- The machine's memory: more facts for use: new memories among the blocks, Load without choices. -/
namespace Go.Proofs.Yteeeidldknlblaa
open Go.D
set_option linter.all false
set_option maxRecDepth 100000
set_option maxHeartbeats 4000000

theorem memF_newA {f : Nat → M → (M → List Blk) → List V → Res} {h X : List Blk} {m : M} {rest : List V} : memF f (.s (.p (.g h.length) 0) :: rest) (memH h m ++ X) = f (h.length + 1) m (fun m => memH h m ++ X) rest := by
  rw [memF_app0 (memH_is h m), memH_fun]
theorem memF_new1A {f : Nat → M → (M → List Blk) → List V → Res} {h X : List Blk} {m k : M} {rest : List V} : memF f (.s (.p (.g h.length) 0) :: rest) (memH (memH h m) k ++ X) = f (h.length + 1) m (fun m => memH (memH h m) k ++ X) rest := by
  rw [memF_app0 (memH_is1 h m k), show setM (memH (memH h m) k) h.length (h.length + 1) = fun m => memH (memH h m) k from funext (memH_set1 h m k)]
theorem memF_new2A {f : Nat → M → (M → List Blk) → List V → Res} {h X : List Blk} {m k : M} {rest : List V} : memF f (.s (.p (.g (h.length + 2)) 0) :: rest) (memH (memH h m) k ++ X) = f (h.length + 3) k (fun k => memH (memH h m) k ++ X) rest := by
  rw [memF_app0 (memH_is2 h m k), show setM (memH (memH h m) k) (h.length + 2) (h.length + 3) = memH (memH h m) from funext (memH_set2 h m k)]

section
variable {h X : List Blk} {m : M} {k : Nat}
theorem mg0 : (memH h m ++ X)[h.length + 2]? = X[0]? := by rw [List.getElem?_append_right (by rw [memH_len]; omega), memH_len, Nat.sub_self]
theorem mg1 : (memH h m ++ X)[h.length + 2 + k]? = X[k]? := by rw [List.getElem?_append_right (by rw [memH_len]; omega), memH_len, Nat.add_sub_cancel_left]
theorem mg2 : (memH h m ++ X)[h.length + 2 + 1 + k]? = X[k + 1]? := by
  rw [List.getElem?_append_right (by rw [memH_len]; omega), memH_len]
  congr 1; omega
theorem mt1 : (memH h m ++ X).take (h.length + 2 + k) = memH h m ++ X.take k := by
  have := app_taken (h := memH h m) (r := X) (n := k)
  rwa [memH_len] at this
theorem md1 : (memH h m ++ X).drop (h.length + 2 + k) = X.drop k := by
  have := app_dropn (h := memH h m) (r := X) (n := k)
  rwa [memH_len] at this
theorem memH_clean (hc : clean h.length h = true) : clean (h.length + 2) (memH h m) = true := by
  refine clean_app hc (by omega) ?_
  simp only [clean, List.all_cons, List.all_nil, Bool.and_true, Bool.and_eq_true, MB, MW, wc_vals]
  simp [vals, S.val, R.val]
theorem memH_cleanA {n : Nat} (hc : clean h.length h = true) (hn : h.length + 2 ≤ n) (hX : clean n X = true) : clean n (memH h m ++ X) = true := clean_app (memH_clean hc) hn hX
theorem listOf_at {H : List Blk} {j c room : Nat} {st : BK} {vs : List Int} {n : Nat} (hj : H[j]? = some ⟨st, wc vs, room⟩) (hs : st ≠ .dead) (hn : vs.length = n) : listOf H (.sl (.g j) 0 n c) = some vs := by
  subst hn; exact listOf_eq (IsList.whole hj hs)
end

theorem take_all {l : List Int} {n : Nat} (h : l.length = n) : l.take n = l := List.take_of_length_le (by omega)
theorem mh2_len {h : List Blk} {m k : M} {X : List Blk} : (memH (memH h m) k ++ X).length = h.length + 2 + 2 + X.length := by rw [List.length_append, memH_len, memH_len]
section
variable {h X : List Blk} {m n : M} {k : Nat}
theorem nh0 : (memH (memH h m) n ++ X)[h.length + 2 + 2]? = X[0]? := by
  have := mg0 (h := memH h m) (m := n) (X := X); rwa [memH_len] at this
theorem nh1 : (memH (memH h m) n ++ X)[h.length + 2 + 2 + k]? = X[k]? := by
  have := mg1 (h := memH h m) (m := n) (X := X) (k := k); rwa [memH_len] at this
theorem nt1 : (memH (memH h m) n ++ X).take (h.length + 2 + 2 + k) = memH (memH h m) n ++ X.take k := by
  have := mt1 (h := memH h m) (m := n) (X := X) (k := k); rwa [memH_len] at this
theorem nd1 : (memH (memH h m) n ++ X).drop (h.length + 2 + 2 + k) = X.drop k := by
  have := md1 (h := memH h m) (m := n) (X := X) (k := k); rwa [memH_len] at this
theorem memH2_app : memH (memH h m) n ++ X = h ++ ([MB (h.length + 1) m, MW m] ++ ([MB (h.length + 2 + 1) n, MW n] ++ X)) := by
  show h ++ [_, _] ++ [MB ((h ++ [_, _]).length + 1) n, _] ++ X = _
  simp
end

section
variable {h X : List Blk} {m n m' n' : M} {k : Nat} {B : Blk}
theorem nh2 : (memH (memH h m) n ++ (B :: X))[h.length + 2 + 2 + 1 + k]? = X[k]? := by
  rw [List.getElem?_append_right (by rw [memH_len, memH_len]; omega), memH_len, memH_len]
  rw [show h.length + 2 + 2 + 1 + k - (h.length + 2 + 2) = k + 1 by omega]; rfl
theorem nhl {j : Nat} (hj : j < h.length) : (memH (memH h m) n ++ X)[j]? = h[j]? := by rw [memH2_app, List.getElem?_append_left hj]
theorem memOf_1 : memOf (memH (memH h m) n ++ X) h.length = some (h.length + 1, m) := memOf_eq (memH_is1 h m n).app
theorem memOf_2 : memOf (memH (memH h m) n ++ X) (h.length + 2) = some (h.length + 3, n) := memOf_eq (memH_is2 h m n).app
theorem setM_1 : setM (memH (memH h m) n ++ X) h.length (h.length + 1) m' = memH (memH h m') n ++ X := by rw [setM_app (memH_is1 h m n), memH_set1]
theorem setM_2 : setM (memH (memH h m) n ++ X) (h.length + 2) (h.length + 3) n' = memH (memH h m) n' ++ X := by rw [setM_app (memH_is2 h m n), memH_set2]
theorem clean_both {c : Nat} (hc : clean c (memH (memH h m) n ++ X) = true) (hl : h.length + 4 ≤ c) : clean c (memH (memH h m') n' ++ X) = true := by
  rw [memH2_app] at hc ⊢
  simp only [clean, List.all_append, List.all_cons, List.all_nil, Bool.and_eq_true, Bool.and_true] at hc ⊢
  obtain ⟨h1, _, _, h2⟩ := hc
  refine ⟨h1, ⟨?_, wc_vals _ _ _⟩, ⟨?_, wc_vals _ _ _⟩, h2⟩
  · simp [MB, vals, S.val, R.val]; omega
  · simp [MB, vals, S.val, R.val]; omega
end

def M.loadE (m : M) (x : Int) (vs : List Int) : Int := if m.has x vs.length then 0 else 20
def M.loadX (m : M) (x : Int) (vs : List Int) : M := if m.has x vs.length then m.lay x.toNat vs else m
noncomputable def load2G : List V → List Blk → Res
  | [.s (.p (.g a) 0), .s (.i .i64 x), .s s], h => match memOf h a, listOf h s with
    | some (b, m), some vs => .ob (apartS b s ∧ ∀ v, v ∈ vs → u64 v) (.ok (.s (.i .i64 (m.loadE x vs))) [] (setM h a b (m.loadX x vs)))
    | _, _ => .bad
  | _, _ => .bad

theorem load2_snd : Snd Try.prog 27 (FSpec.of load2G) := mload_snd.weaken fun args h K hc hS => by
  have hS : (load2G args h).spec K := hS
  unfold load2G at hS
  split at hS
  · rename_i a x s
    split at hS
    · rename_i b m vs e1 e2
      obtain ⟨hp, hS⟩ := hS
      simp only [spec_ok, M.loadE, M.loadX] at hS
      show Res.spec K (loadG _ h)
      simp only [loadG, e1, e2, spec_ob, spec_br, spec_ok]
      refine ⟨hp, fun e => ?_, fun e => ?_⟩
      · simpa only [e, if_true] using hS
      · have := setM_self (memOf_some e1)
        simpa only [e, Bool.false_eq_true, if_false, this] using hS
    · exact hS.elim
  · exact hS.elim
theorem rload2_snd : Snd Try.prog 65 (FSpec.of load2G) := rload_snd.weaken fun args h K hc hS => by
  have hS : (load2G args h).spec K := hS
  unfold load2G at hS
  split at hS
  · rename_i a x s
    split at hS
    · rename_i b m vs e1 e2
      obtain ⟨hp, hS⟩ := hS
      simp only [spec_ok, M.loadE, M.loadX] at hS
      show Res.spec K (loadG _ h)
      simp only [loadG, e1, e2, spec_ob, spec_br, spec_ok]
      refine ⟨hp, fun e => ?_, fun e => ?_⟩
      · simpa only [e, if_true] using hS
      · have := setM_self (memOf_some e1)
        simpa only [e, Bool.false_eq_true, if_false, this] using hS
    · exact hS.elim
  · exact hS.elim

theorem M.loadX_len (m : M) (x : Int) (vs : List Int) : (m.loadX x vs).w.length = m.w.length := by
  unfold M.loadX; split
  · exact M.lay_len _ _ _
  · rfl
end Go.Proofs.Yteeeidldknlblaa

/- Memories and lists among a law's own blocks: the heap is what was there, and blocks behind it, one by one. -/
namespace Go.Proofs.Yteeeidldknlblaa
open Go.D
set_option linter.all false
set_option maxRecDepth 100000
set_option maxHeartbeats 4000000

theorem n21 {a : Nat} : a + 2 + 1 = a + 3 := rfl
theorem n22 {a : Nat} : a + 2 + 2 = a + 4 := rfl
theorem n41 {a : Nat} : a + 4 + 1 = a + 5 := rfl
theorem nnn {a : Nat} (n k : Nat) : a + n + k = a + (n + k) := Nat.add_assoc _ _ _
theorem nlt0 {a k : Nat} : (a < a + k) = (0 < k) := by simp
theorem nltn {a j k : Nat} : (a + j < a + k) = (j < k) := by simp
section
variable {h X : List Blk} {A B : Blk} {m : M}
theorem at0_is : IsMem (h ++ (MB (h.length + 1) m :: MW m :: X)) h.length (h.length + 1) m := by
  refine ⟨by omega, ?_, ?_⟩
  · rw [app_get0]; rfl
  · rw [app_getn]; rfl
theorem at0_set (m' : M) : setM (h ++ (MB (h.length + 1) m :: MW m :: X)) h.length (h.length + 1) m' = h ++ (MB (h.length + 1) m' :: MW m' :: X) := by
  simp only [setM]
  rw [app_set0, app_setn]; rfl
theorem at2_is : IsMem (h ++ (A :: B :: MB (h.length + 3) m :: MW m :: X)) (h.length + 2) (h.length + 3) m := by
  refine ⟨by omega, ?_, ?_⟩
  · rw [app_getn]; rfl
  · rw [app_getn]; rfl
theorem at2_set (m' : M) : setM (h ++ (A :: B :: MB (h.length + 3) m :: MW m :: X)) (h.length + 2) (h.length + 3) m' = h ++ (A :: B :: MB (h.length + 3) m' :: MW m' :: X) := by
  simp only [setM]
  rw [app_setn, app_setn]; rfl
theorem memF_0 {f : Nat → M → (M → List Blk) → List V → Res} {rest : List V} : memF f (.s (.p (.g h.length) 0) :: rest) (h ++ (MB (h.length + 1) m :: MW m :: X)) = f (h.length + 1) m (fun m => h ++ (MB (h.length + 1) m :: MW m :: X)) rest := by
  rw [memF_eq at0_is, funext at0_set]
theorem memF_2 {f : Nat → M → (M → List Blk) → List V → Res} {rest : List V} : memF f (.s (.p (.g (h.length + 2)) 0) :: rest) (h ++ (A :: B :: MB (h.length + 3) m :: MW m :: X)) = f (h.length + 3) m (fun m => h ++ (A :: B :: MB (h.length + 3) m :: MW m :: X)) rest := by
  rw [memF_eq at2_is, funext at2_set]
theorem memAt_0 : memOf (h ++ (MB (h.length + 1) m :: MW m :: X)) h.length = some (h.length + 1, m) := memOf_eq at0_is
theorem memAt_2 : memOf (h ++ (A :: B :: MB (h.length + 3) m :: MW m :: X)) (h.length + 2) = some (h.length + 3, m) := memOf_eq at2_is
theorem MB_vals {b n k : Nat} (hb : b < n) : vals n k (MB b m).cells = true := by simp [MB, vals, S.val, R.val, hb]
theorem clean_nil {n : Nat} : clean n [] = true := by rfl
theorem clean_cons {n : Nat} {B : Blk} {X : List Blk} : clean n (B :: X) = (vals n 0 B.cells && clean n X) := by rfl
theorem clean_h {n : Nat} {X : List Blk} (hc : clean h.length h = true) (hn : h.length ≤ n) : clean n (h ++ X) = clean n X := by
  have : clean n h = true := by
    simp only [clean, List.all_eq_true] at hc ⊢
    exact fun x hx => vals_mono hn (Nat.le_refl _) (hc x hx)
  simp only [clean] at this ⊢
  rw [List.all_append, this, Bool.true_and]
theorem vals_MB {n k j : Nat} : vals (h.length + n) k (MB (h.length + j) m).cells = decide (j < n) := by
  simp [MB, vals, S.val, R.val]
theorem vals_wc {n k : Nat} {w : List Int} : vals n k (wc w) = true := wc_vals _ _ _
theorem vals_nil {n k : Nat} : vals n k [] = true := by rfl
theorem vals_cons {n k : Nat} {s : S} {l : List S} : vals n k (s :: l) = (s.val n k && vals n k l) := by rfl
theorem MW_vals {n k : Nat} : vals n k (MW m).cells = true := wc_vals _ _ _
theorem app_len {X : List Blk} : (h ++ X).length = h.length + X.length := List.length_append
end

/-- A spec by the form of the arguments and the heap. -/
noncomputable def shape {α : Type} (pat : α → List V × List Blk) (ok : α → Prop) (res : α → Res) (args : List V) (h : List Blk) : Res :=
  open Classical in if hx : ∃ a, pat a = (args, h) ∧ ok a then res (Classical.choose hx) else .bad
theorem shape_eq {α : Type} {pat : α → List V × List Blk} {ok : α → Prop} {res : α → Res} (inj : ∀ a b, pat a = pat b → ok a → ok b → res a = res b) {args : List V} {h : List Blk} (a : α) (e : pat a = (args, h)) (ha : ok a) : shape pat ok res args h = res a := by
  have hx : ∃ a, pat a = (args, h) ∧ ok a := ⟨a, e, ha⟩
  unfold shape
  rw [dif_pos hx]
  have := Classical.choose_spec hx
  exact inj _ _ (this.1.trans e.symm) this.2 ha
theorem shape_spec {α : Type} {pat : α → List V × List Blk} {ok : α → Prop} {res : α → Res} {args : List V} {h : List Blk} {K : V → List Blk → Prop} (hS : (shape pat ok res args h).spec K) : ∃ a, pat a = (args, h) ∧ ok a ∧ (res a).spec K := by
  unfold shape at hS
  split at hS
  · rename_i hx
    have := Classical.choose_spec hx
    exact ⟨_, this.1, this.2, hS⟩
  · exact hS.elim
theorem app_inj {α : Type} {h h' X X' : List α} (e : h ++ X = h' ++ X') (hl : h.length = h'.length) : h = h' ∧ X = X' := List.append_inj e hl
theorem MB_inj {b b' : Nat} {m m' : M} (e : MB b m = MB b' m') : m.n = m'.n := by
  simp only [MB, Blk.mk.injEq, List.cons.injEq, S.i.injEq, true_and, and_true] at e
  exact e.2
theorem MW_inj {m m' : M} (e : MW m = MW m') : m.w = m'.w := by
  simp only [MW, Blk.mk.injEq, true_and] at e
  exact wc_inj e.1

/-- The words of a block's cells. -/
def unwc : List S → Option (List Int)
  | [] => some []
  | .i .u64 x :: l => match unwc l with
    | some v => some (x :: v)
    | none => none
  | _ => none
theorem unwc_wc : ∀ v : List Int, unwc (wc v) = some v
  | [] => rfl
  | x :: v => by simp only [wc_cons, unwc, unwc_wc v]
theorem unwc_nil : unwc [] = some [] := by rfl
theorem unwc_cons {x : Int} {l : List S} : unwc (.i .u64 x :: l) = match unwc l with | some v => some (x :: v) | none => none := by rfl
theorem wc_unwc : ∀ {l : List S} {v : List Int}, unwc l = some v → l = wc v
  | [], v, e => by simp only [unwc, Option.some.injEq] at e; subst e; rfl
  | .i k x :: l, v, e => by
    cases k <;> simp only [unwc, reduceCtorEq] at e
    split at e
    · rename_i v' e'
      rw [Option.some.injEq] at e
      subst e
      rw [wc_unwc e', wc_cons]
    · cases e
  | .u :: _, _, e => by simp [unwc] at e
  | .b _ :: _, _, e => by simp [unwc] at e
  | .p _ _ :: _, _, e => by simp [unwc] at e
  | .np :: _, _, e => by simp [unwc] at e
  | .sl _ _ _ _ :: _, _, e => by simp [unwc] at e
  | .ns :: _, _, e => by simp [unwc] at e
  | .es _ _ :: _, _, e => by simp [unwc] at e
  | .fn _ _ :: _, _, e => by simp [unwc] at e
  | .nf :: _, _, e => by simp [unwc] at e
def lenIs (n : Nat) (v : List Int) : Option (List Int) := if v.length = n then some v else none
theorem lenIs_t {n : Nat} {v : List Int} (h : v.length = n) : lenIs n v = some v := if_pos h
def lstB (n : Nat) : Option Blk → Option (List Int)
  | some ⟨.rw, cells, _⟩ => (unwc cells).bind (lenIs n)
  | some ⟨.ro, cells, _⟩ => (unwc cells).bind (lenIs n)
  | _ => none
theorem lstB_rw {n room : Nat} {cells : List S} : lstB n (some ⟨.rw, cells, room⟩) = (unwc cells).bind (lenIs n) := by rfl
theorem o_bind {α β : Type} {x : α} {f : α → Option β} : (some x).bind f = f x := by rfl
theorem lstB_list {H : List Blk} {j n c : Nat} {vs : List Int} (h : lstB n H[j]? = some vs) : listOf H (.sl (.g j) 0 n c) = some vs := by
  have key : ∀ st cells room, H[j]? = some ⟨st, cells, room⟩ → st ≠ .dead → (unwc cells).bind (lenIs n) = some vs → listOf H (.sl (.g j) 0 n c) = some vs := by
    intro st cells room e hs e2
    obtain ⟨v, e3, e4⟩ := Option.bind_eq_some_iff.1 e2
    unfold lenIs at e4
    split at e4
    · rename_i hl
      rw [Option.some.injEq] at e4
      subst e4
      rw [wc_unwc e3] at e
      exact listOf_at e hs hl
    · cases e4
  unfold lstB at h
  split at h
  · rename_i e; exact key _ _ _ e (by simp) h
  · rename_i e; exact key _ _ _ e (by simp) h
  · cases h
theorem listOf_g {h X : List Blk} {n c k : Nat} (hs : (lstB n (h ++ X)[h.length + k]?).isSome = true) : listOf (h ++ X) (.sl (.g (h.length + k)) 0 n c) = lstB n (h ++ X)[h.length + k]? := by
  obtain ⟨vs, e⟩ := Option.isSome_iff_exists.1 hs
  rw [e, lstB_list e]
theorem some_is {α : Type} {x : α} : (some x).isSome = true := by rfl
/-- What lay there is a list still. -/
theorem IsList.of {h : List Blk} {s : S} {vs : List Int} (H : IsList h s vs) (X : List Blk) : listOf (h ++ X) s = some vs := listOf_eq H.app

theorem M.part_ext {m : M} {x k : Nat} {vs : List Int} (h : x + k ≤ m.w.length) (hl : vs.length = k) (he : ∀ i, i < k → m.at ((x + i : Nat) : Int) = nth 0 vs i) : (m.w.drop x).take k = vs := by
  have hp := M.part_len h
  refine eq_of_nth (hp.trans hl.symm) fun i hi => ?_
  have hi' : i < k := by rw [show ((m.w.drop x).take k).length = k from hp] at hi; exact hi
  have := M.at_part (m := m) (x := x) hi'
  rw [← he i hi', ← this]; rfl

/-- A list of words that the function itself makes, in its b-th block. -/
def slW (b : Nat) : List Int → Nat → S
  | [], _ => .ns
  | _ :: v, c => .sl (.l b) 0 (v.length + 1) c
def lsW : List Int → Nat → List Blk
  | [], _ => []
  | x :: v, c => [⟨.rw, wc (x :: v), c⟩]
theorem M.readV_t {m : M} {i : Nat} (h : i + 1 ≤ m.w.length) : m.readV i = m.at i := by rw [M.readV, M.has_of (by omega), if_pos rfl]
theorem M.readE_t {m : M} {i : Nat} (h : i + 1 ≤ m.w.length) : m.readE i = 0 := by rw [M.readE, M.has_of (by omega), if_pos rfl]
theorem M.readX_t {m : M} {i : Nat} (h : i + 1 ≤ m.w.length) : m.readX i = m.tick 1 := by rw [M.readX, M.has_of (by omega), if_pos rfl]
theorem M.writeX_t {m : M} {i : Nat} {v : Int} (h : i + 1 ≤ m.w.length) : m.writeX i v = (m.put i v).tick 1 := by rw [M.writeX, M.has_of (by omega), if_pos rfl, Int.toNat_natCast]
theorem M.tick_tick (m : M) (a b : Int) : (m.tick a).tick b = m.tick (a + b) := M.ext' rfl (wrap_add _ _ _)
theorem M.tick_put (m : M) (a : Int) (i : Nat) (v : Int) : (m.tick a).put i v = (m.put i v).tick a := M.ext' rfl rfl
theorem M.tick_lay (a : Int) : ∀ (vs : List Int) (m : M) (o : Nat), (m.tick a).lay o vs = (m.lay o vs).tick a
  | [], _, _ => rfl
  | v :: vs, m, o => by simp only [M.lay, M.tick_put, M.tick_lay a vs]
theorem M.tick_at' (m : M) (a : Int) (j : Int) : (m.tick a).at j = m.at j := rfl

theorem M.copyE_or (m : M) (x y k : Int) : m.copyE x y k = 0 ∨ (m.copyE x y k = 20 ∧ m.copyX x y k = m) := by
  unfold M.copyE M.copyX
  split
  · exact .inl rfl
  · exact .inr ⟨rfl, rfl⟩
theorem M.fillE_or (m : M) (x k v : Int) : m.fillE x k = 0 ∨ (m.fillE x k = 20 ∧ m.fillX x k v = m) := by
  unfold M.fillE M.fillX
  split
  · exact .inl rfl
  · exact .inr ⟨rfl, rfl⟩
theorem M.loadX_n (m : M) (x : Int) (vs : List Int) : (m.loadX x vs).n = m.n := by
  unfold M.loadX; split
  · exact M.lay_n _ _ _
  · rfl
theorem MB_0 {b : Nat} {m : M} : (MB b m).cells[0]? = some (.sl (.g b) 0 m.w.length m.w.length) := by rfl
theorem MB_1 {b : Nat} {m : M} : (MB b m).cells[1]? = some (.i .i64 m.n) := by rfl
theorem MB_st {b : Nat} {m : M} : (MB b m).st = .rw := by rfl
theorem lstB_MW {n : Nat} {m : M} : lstB n (some (MW m)) = lenIs n m.w := by
  show (unwc (wc m.w)).bind (lenIs n) = _
  rw [unwc_wc]; rfl
theorem blk_ren (ρ : R → R) (st : BK) (c : List S) (n : Nat) : Blk.ren ρ ⟨st, c, n⟩ = ⟨st, c.map (S.ren ρ), n⟩ := rfl
end Go.Proofs.Yteeeidldknlblaa

/- TlbHonest: the walk. -/
namespace Go.Proofs.Yteeeidldknlblaa
namespace Tl
open Go.D
set_option linter.all false
set_option maxRecDepth 100000
set_option maxHeartbeats 8000000

noncomputable def TH : Tab := addT 13 awake0G (addT 14 newG (addT 15 fillG (addT 16 evictG (addT 17 flushPageG (addT 18 flushAsidG (addT 19 flushAllG (addT 20 linesG (noT))))))))
theorem TH_snd : TH.Snd Try.prog := addT_snd ok13 awake0_snd (addT_snd ok14 new_snd (addT_snd ok15 fill_snd (addT_snd ok16 evict_snd (addT_snd ok17 flushPage_snd (addT_snd ok18 flushAsid_snd (addT_snd ok19 flushAll_snd (addT_snd ok20 lines_snd ((noT_snd _)))))))))

def T0 : List V := List.replicate 226 (.s .u)
structure St1 where
  i : Nat
  L : List Ln
  J : List (List Ln × Nat)
  s : S
  K : List Ln
structure St3 where
  F : List Ln
  c : Nat
  j : Nat
structure St2 where
  M : List Ln
  e : Int
  q : Nat

  c : Nat

def honestS : FSpec := fun args h K => ∃ s L, args = [.s s] ∧ IsArr Op.c h s L ∧ ∀ h', K (.s (.b true)) h'
theorem honest_snd : Snd Try.prog 3 honestS := (fwp_sound (Tab.snd_Γ TH_snd) mixed Try.func3 dc3).weaken fun args h K hc hS => by
  obtain ⟨s0, Ls, rfl, Hs, hK⟩ := hS
  refine fwp_run (Tab.ok_Γ _) 600 ?_
  have hlen := fun ls h' => Hs.sl.len (ls := ls) (h := h')
  have hv0 : ∀ k j, h.length ≤ k → S.val k j s0 = true := fun k j hk => Hs.sl.val hk
  have hp0 : ∀ l, S.ren (R.pick l) s0 = s0 := Hs.sl.pick
  by_cases c0 : (2147483647 : Int) < Ls.length
  · simp (config := { maxSteps := 10000000 }) only [EV1, EV2, EV3, EV4, EV5, EV6, addT, istep, lenR_sl, lenR_ns, lenR_es, pickR, putD, bin1R, un1R, slcR, bnd, capsOf, fillP, S_plain, V_plain, V.cells, S_known, V_known, C.v, blk, setL, setH, eqS, eq1, cmpS, cmp1, isNil, popTo, killT, setT, leT, V.below, C.below, S_below, R.below, V.val, C.val, S_val, R.val, R.takes, vals, shows, List.any_cons, List.any_nil, unnamed, V.kill, V.names, C.names, S_names, R.names, List.set, List.replicate, ↓q_cond_t, ↓q_cond_f, if_true, if_false, reduceCtorEq, rvals, rvC, result, C_known, V.noL, C.noL, S_noL, R.noL, Option.map, true_and, and_true, ge_iff_le, gt_iff_lt, implies_true, q_ite_t, q_ite_f, beq_iff_eq, bne_iff_ne, q_ne, Nat.reduceAdd, Nat.reducePow, Int.reducePow, Nat.reduceMul, Nat.reduceSub, Nat.reduceLeDiff, Nat.reduceLT, Nat.reduceEqDiff, Int.reduceNeg, Int.reduceLT, Int.reduceLE, Int.reduceEq, Int.reduceNe, Int.reduceAdd, Int.reduceSub, Int.reduceMul, Int.reduceToNat, Int.reduceBEq, Int.reduceBNe, df3, ↓hlen, c0]
    exact hK _
  simp (config := { maxSteps := 10000000 }) only [EV1, EV2, EV3, EV4, EV5, EV6, addT, istep, lenR_sl, lenR_ns, lenR_es, pickR, putD, bin1R, un1R, slcR, bnd, capsOf, fillP, S_plain, V_plain, V.cells, S_known, V_known, C.v, blk, setL, setH, eqS, eq1, cmpS, cmp1, isNil, popTo, killT, setT, leT, V.below, C.below, S_below, R.below, V.val, C.val, S_val, R.val, R.takes, vals, shows, List.any_cons, List.any_nil, unnamed, V.kill, V.names, C.names, S_names, R.names, List.set, List.replicate, ↓q_cond_t, ↓q_cond_f, if_true, if_false, reduceCtorEq, rvals, rvC, result, C_known, V.noL, C.noL, S_noL, R.noL, Option.map, true_and, and_true, ge_iff_le, gt_iff_lt, implies_true, q_ite_t, q_ite_f, beq_iff_eq, bne_iff_ne, q_ne, Nat.reduceAdd, Nat.reducePow, Int.reducePow, Nat.reduceMul, Nat.reduceSub, Nat.reduceLeDiff, Nat.reduceLT, Nat.reduceEqDiff, Int.reduceNeg, Int.reduceLT, Int.reduceLE, Int.reduceEq, Int.reduceNe, Int.reduceAdd, Int.reduceSub, Int.reduceMul, Int.reduceToNat, Int.reduceBEq, Int.reduceBNe, df3, ↓hlen, c0, TH, awake0G, newG, HH_new]
  refine loop_join (α := St1) (fun y => setT [(0, .s s0), (3, .s (.b true)), (4, .s (.p (.g h.length) 0)), (5, .s y.s), (6, .s (.i .i64 y.i))] T0) (fun y => []) (fun y => HH h y.L y.J)
    (fun y => y.i ≤ Ls.length ∧ okT y.L ∧ isK h.length y.J y.s y.K ∧ y.K.length ≤ y.i ∧ covers y.L y.K) (fun y => Ls.length - y.i)
    (fun main => main _ _ _ ⟨0, List.replicate 8 Ln.z, [], .ns, []⟩ ⟨Nat.zero_le _, okT_z, .inl ⟨rfl, rfl⟩, Nat.le_refl _, fun l hl hn => by rw [List.eq_of_mem_replicate hl] at hn; cases hn⟩ ?_) ?_
  · refine Wk.less ?_
    simp (config := { maxSteps := 10000000 }) only [EV1, EV2, EV3, EV4, EV5, EV6, addT, istep, lenR_sl, lenR_ns, lenR_es, pickR, putD, bin1R, un1R, slcR, bnd, capsOf, fillP, S_plain, V_plain, V.cells, S_known, V_known, C.v, blk, setL, setH, eqS, eq1, cmpS, cmp1, isNil, popTo, killT, setT, leT, V.below, C.below, S_below, R.below, V.val, C.val, S_val, R.val, R.takes, vals, shows, List.any_cons, List.any_nil, unnamed, V.kill, V.names, C.names, S_names, R.names, List.set, List.replicate, ↓q_cond_t, ↓q_cond_f, if_true, if_false, reduceCtorEq, rvals, rvC, result, C_known, V.noL, C.noL, S_noL, R.noL, Option.map, true_and, and_true, ge_iff_le, gt_iff_lt, implies_true, q_ite_t, q_ite_f, beq_iff_eq, bne_iff_ne, q_ne, Nat.reduceAdd, Nat.reducePow, Int.reducePow, Nat.reduceMul, Nat.reduceSub, Nat.reduceLeDiff, Nat.reduceLT, Nat.reduceEqDiff, Int.reduceNeg, Int.reduceLT, Int.reduceLE, Int.reduceEq, Int.reduceNe, Int.reduceAdd, Int.reduceSub, Int.reduceMul, Int.reduceToNat, Int.reduceBEq, Int.reduceBNe, T0, q_cast, Int.natCast_zero]
  · rintro X ⟨i, L, J, s, K'⟩ ⟨hi, g, hs, hKl, hcv⟩ IH
    simp only at hi g hs hKl hcv IH ⊢
    rcases Nat.lt_or_ge i Ls.length with h1 | h1
    · obtain ⟨d1, d2, d3, d4⟩ := idx h1 (by omega)
      obtain ⟨j, c', st, room, hse, hj, hd⟩ := Hs.at h1
      obtain ⟨⟨w, a, p, x, r, at_⟩, hx⟩ : ∃ x, nth Op.z Ls i = x := ⟨_, rfl⟩
      have E := (Op.at_ h1).1
      have hle := (Op.at_ h1).2.2.2.2.2.2.2.2.1
      rw [hx] at E
      simp only at E
      have hjl : j < h.length := (List.getElem?_eq_some_iff.1 hj).1
      have hjx : ∀ M J, (HH h M J)[j]? = some ⟨st, arr Op.c Ls, room⟩ := fun M J => by rw [HH_old hjl, hj]
      have h8 := g.len
      refine run_sound (Tab.ok_Γ _) 600 _ _ _ _ ?_
      simp (config := { maxSteps := 10000000 }) only [EV1, EV2, EV3, EV4, EV5, EV6, addT, istep, lenR_sl, lenR_ns, lenR_es, pickR, putD, bin1R, un1R, slcR, bnd, capsOf, fillP, S_plain, V_plain, V.cells, S_known, V_known, C.v, blk, setL, setH, eqS, eq1, cmpS, cmp1, isNil, popTo, killT, setT, leT, V.below, C.below, S_below, R.below, V.val, C.val, S_val, R.val, R.takes, vals, shows, List.any_cons, List.any_nil, unnamed, V.kill, V.names, C.names, S_names, R.names, List.set, List.replicate, ↓q_cond_t, ↓q_cond_f, if_true, if_false, reduceCtorEq, rvals, rvC, result, C_known, V.noL, C.noL, S_noL, R.noL, Option.map, true_and, and_true, ge_iff_le, gt_iff_lt, implies_true, q_ite_t, q_ite_f, beq_iff_eq, bne_iff_ne, q_ne, Nat.reduceAdd, Nat.reducePow, Int.reducePow, Nat.reduceMul, Nat.reduceSub, Nat.reduceLeDiff, Nat.reduceLT, Nat.reduceEqDiff, Int.reduceNeg, Int.reduceLT, Int.reduceLE, Int.reduceEq, Int.reduceNe, Int.reduceAdd, Int.reduceSub, Int.reduceMul, Int.reduceToNat, Int.reduceBEq, Int.reduceBNe, T0, hse, d1, d2, d3, d4, hjx, hd, E, hle, TH, fillG, evictG, flushPageG, flushAsidG, flushAllG, HH_get, HH_set, isTlb_tlbB, tlbB_cells, dec_arr, h8]
      refine loop_join (α := St2) (fun y => setT [(0, .s s0), (3, .s (.b true)), (4, .s (.p (.g h.length) 0)), (5, .s s), (6, .s (.i .i64 i)), (7, .s (.p (.l 0) 0)), (8, .s (slL 1 ((K'.take y.q).filter fun l => !goneB w a p y.e l) y.c)), (9, .s (.i .i64 y.e)), (10, .s (.i .i64 y.q))] T0)
        (fun y => ⟨.rw, [.i .i64 w, .i .i64 a, .i .i64 p, .i .i64 x, .i .i64 r, .i .i64 at_], 6⟩ :: lsL ((K'.take y.q).filter fun l => !goneB w a p y.e l) y.c) (fun y => HH h y.M J)
        (fun y => y.q ≤ K'.length ∧ y.M = stepF w a p x r at_ L ∧ (w = 2 → (y.e = 0 ↔ fillB ⟨a, p, x, r⟩ at_ = true)) ∧ ((K'.take y.q).filter fun l => !goneB w a p y.e l).length ≤ y.c) (fun y => K'.length - y.q)
        (fun main => ⟨fun e2 => ⟨fun hf => main _ _ _ ⟨stepF w a p x r at_ L, 0, 0, 0⟩ ⟨Nat.zero_le _, rfl, fun _ => ⟨fun _ => hf, fun _ => rfl⟩, Nat.le_refl _⟩ ?_, fun hf => main _ _ _ ⟨stepF w a p x r at_ L, 1, 0, 0⟩ ⟨Nat.zero_le _, rfl, fun _ => ⟨fun h => absurd (show (1 : Int) = 0 from h) (by decide), fun h => absurd h hf⟩, Nat.le_refl _⟩ ?_⟩,
          fun e2 => ⟨fun e3 => ⟨fun hf => main _ _ _ ⟨stepF w a p x r at_ L, 0, 0, 0⟩ ⟨Nat.zero_le _, rfl, fun h => absurd h e2, Nat.le_refl _⟩ ?_, fun hf => main _ _ _ ⟨stepF w a p x r at_ L, 0, 0, 0⟩ ⟨Nat.zero_le _, rfl, fun h => absurd h e2, Nat.le_refl _⟩ ?_⟩,
            fun e3 => ⟨fun e4 => main _ _ _ ⟨stepF w a p x r at_ L, 0, 0, 0⟩ ⟨Nat.zero_le _, rfl, fun h => absurd h e2, Nat.le_refl _⟩ ?_, fun e4 => ⟨fun e5 => main _ _ _ ⟨stepF w a p x r at_ L, 0, 0, 0⟩ ⟨Nat.zero_le _, rfl, fun h => absurd h e2, Nat.le_refl _⟩ ?_, fun e5 => ⟨fun e6 => main _ _ _ ⟨stepF w a p x r at_ L, 0, 0, 0⟩ ⟨Nat.zero_le _, rfl, fun h => absurd h e2, Nat.le_refl _⟩ ?_, fun e6 => main _ _ _ ⟨stepF w a p x r at_ L, 0, 0, 0⟩ ⟨Nat.zero_le _, rfl, fun h => absurd h e2, Nat.le_refl _⟩ ?_⟩⟩⟩⟩⟩) ?_
      · have : stepF w a p x r at_ L = L.set (slotF ⟨a, p, x, r⟩ at_ L) ⟨a, p, x, r⟩ := by simp [stepF, e2, hf]
        simp only [this, List.take_zero, List.filter_nil, lsL]
        refine Wk.less ?_
        simp (config := { maxSteps := 10000000 }) only [EV1, EV2, EV3, EV4, EV5, EV6, addT, istep, lenR_sl, lenR_ns, lenR_es, pickR, putD, bin1R, un1R, slcR, bnd, capsOf, fillP, S_plain, V_plain, V.cells, S_known, V_known, C.v, blk, setL, setH, eqS, eq1, cmpS, cmp1, isNil, popTo, killT, setT, leT, V.below, C.below, S_below, R.below, V.val, C.val, S_val, R.val, R.takes, vals, shows, List.any_cons, List.any_nil, unnamed, V.kill, V.names, C.names, S_names, R.names, List.set, List.replicate, ↓q_cond_t, ↓q_cond_f, if_true, if_false, reduceCtorEq, rvals, rvC, result, C_known, V.noL, C.noL, S_noL, R.noL, Option.map, true_and, and_true, ge_iff_le, gt_iff_lt, implies_true, q_ite_t, q_ite_f, beq_iff_eq, bne_iff_ne, q_ne, Nat.reduceAdd, Nat.reducePow, Int.reducePow, Nat.reduceMul, Nat.reduceSub, Nat.reduceLeDiff, Nat.reduceLT, Nat.reduceEqDiff, Int.reduceNeg, Int.reduceLT, Int.reduceLE, Int.reduceEq, Int.reduceNe, Int.reduceAdd, Int.reduceSub, Int.reduceMul, Int.reduceToNat, Int.reduceBEq, Int.reduceBNe, T0, hse, slL, List.take_zero, List.filter_nil, q_cast, Int.natCast_zero]
      · have : stepF w a p x r at_ L = L := by simp [stepF, e2, hf]
        simp only [this, List.take_zero, List.filter_nil, lsL]
        refine Wk.less ?_
        simp (config := { maxSteps := 10000000 }) only [EV1, EV2, EV3, EV4, EV5, EV6, addT, istep, lenR_sl, lenR_ns, lenR_es, pickR, putD, bin1R, un1R, slcR, bnd, capsOf, fillP, S_plain, V_plain, V.cells, S_known, V_known, C.v, blk, setL, setH, eqS, eq1, cmpS, cmp1, isNil, popTo, killT, setT, leT, V.below, C.below, S_below, R.below, V.val, C.val, S_val, R.val, R.takes, vals, shows, List.any_cons, List.any_nil, unnamed, V.kill, V.names, C.names, S_names, R.names, List.set, List.replicate, ↓q_cond_t, ↓q_cond_f, if_true, if_false, reduceCtorEq, rvals, rvC, result, C_known, V.noL, C.noL, S_noL, R.noL, Option.map, true_and, and_true, ge_iff_le, gt_iff_lt, implies_true, q_ite_t, q_ite_f, beq_iff_eq, bne_iff_ne, q_ne, Nat.reduceAdd, Nat.reducePow, Int.reducePow, Nat.reduceMul, Nat.reduceSub, Nat.reduceLeDiff, Nat.reduceLT, Nat.reduceEqDiff, Int.reduceNeg, Int.reduceLT, Int.reduceLE, Int.reduceEq, Int.reduceNe, Int.reduceAdd, Int.reduceSub, Int.reduceMul, Int.reduceToNat, Int.reduceBEq, Int.reduceBNe, T0, hse, slL, List.take_zero, List.filter_nil, q_cast, Int.natCast_zero]
      · have : stepF w a p x r at_ L = L.set at_.toNat Ln.z := by simp [stepF, e3, hf]
        simp only [this, List.take_zero, List.filter_nil, lsL]
        refine Wk.less ?_
        simp (config := { maxSteps := 10000000 }) only [EV1, EV2, EV3, EV4, EV5, EV6, addT, istep, lenR_sl, lenR_ns, lenR_es, pickR, putD, bin1R, un1R, slcR, bnd, capsOf, fillP, S_plain, V_plain, V.cells, S_known, V_known, C.v, blk, setL, setH, eqS, eq1, cmpS, cmp1, isNil, popTo, killT, setT, leT, V.below, C.below, S_below, R.below, V.val, C.val, S_val, R.val, R.takes, vals, shows, List.any_cons, List.any_nil, unnamed, V.kill, V.names, C.names, S_names, R.names, List.set, List.replicate, ↓q_cond_t, ↓q_cond_f, if_true, if_false, reduceCtorEq, rvals, rvC, result, C_known, V.noL, C.noL, S_noL, R.noL, Option.map, true_and, and_true, ge_iff_le, gt_iff_lt, implies_true, q_ite_t, q_ite_f, beq_iff_eq, bne_iff_ne, q_ne, Nat.reduceAdd, Nat.reducePow, Int.reducePow, Nat.reduceMul, Nat.reduceSub, Nat.reduceLeDiff, Nat.reduceLT, Nat.reduceEqDiff, Int.reduceNeg, Int.reduceLT, Int.reduceLE, Int.reduceEq, Int.reduceNe, Int.reduceAdd, Int.reduceSub, Int.reduceMul, Int.reduceToNat, Int.reduceBEq, Int.reduceBNe, T0, hse, slL, List.take_zero, List.filter_nil, q_cast, Int.natCast_zero]
      · have : stepF w a p x r at_ L = L := by simp [stepF, e3, hf]
        simp only [this, List.take_zero, List.filter_nil, lsL]
        refine Wk.less ?_
        simp (config := { maxSteps := 10000000 }) only [EV1, EV2, EV3, EV4, EV5, EV6, addT, istep, lenR_sl, lenR_ns, lenR_es, pickR, putD, bin1R, un1R, slcR, bnd, capsOf, fillP, S_plain, V_plain, V.cells, S_known, V_known, C.v, blk, setL, setH, eqS, eq1, cmpS, cmp1, isNil, popTo, killT, setT, leT, V.below, C.below, S_below, R.below, V.val, C.val, S_val, R.val, R.takes, vals, shows, List.any_cons, List.any_nil, unnamed, V.kill, V.names, C.names, S_names, R.names, List.set, List.replicate, ↓q_cond_t, ↓q_cond_f, if_true, if_false, reduceCtorEq, rvals, rvC, result, C_known, V.noL, C.noL, S_noL, R.noL, Option.map, true_and, and_true, ge_iff_le, gt_iff_lt, implies_true, q_ite_t, q_ite_f, beq_iff_eq, bne_iff_ne, q_ne, Nat.reduceAdd, Nat.reducePow, Int.reducePow, Nat.reduceMul, Nat.reduceSub, Nat.reduceLeDiff, Nat.reduceLT, Nat.reduceEqDiff, Int.reduceNeg, Int.reduceLT, Int.reduceLE, Int.reduceEq, Int.reduceNe, Int.reduceAdd, Int.reduceSub, Int.reduceMul, Int.reduceToNat, Int.reduceBEq, Int.reduceBNe, T0, hse, slL, List.take_zero, List.filter_nil, q_cast, Int.natCast_zero]
      · have : stepF w a p x r at_ L = sieve (fun l => l.a == a && l.p == p) L := by simp [stepF, e4]; rfl
        simp only [this, List.take_zero, List.filter_nil, lsL]
        refine Wk.less ?_
        simp (config := { maxSteps := 10000000 }) only [EV1, EV2, EV3, EV4, EV5, EV6, addT, istep, lenR_sl, lenR_ns, lenR_es, pickR, putD, bin1R, un1R, slcR, bnd, capsOf, fillP, S_plain, V_plain, V.cells, S_known, V_known, C.v, blk, setL, setH, eqS, eq1, cmpS, cmp1, isNil, popTo, killT, setT, leT, V.below, C.below, S_below, R.below, V.val, C.val, S_val, R.val, R.takes, vals, shows, List.any_cons, List.any_nil, unnamed, V.kill, V.names, C.names, S_names, R.names, List.set, List.replicate, ↓q_cond_t, ↓q_cond_f, if_true, if_false, reduceCtorEq, rvals, rvC, result, C_known, V.noL, C.noL, S_noL, R.noL, Option.map, true_and, and_true, ge_iff_le, gt_iff_lt, implies_true, q_ite_t, q_ite_f, beq_iff_eq, bne_iff_ne, q_ne, Nat.reduceAdd, Nat.reducePow, Int.reducePow, Nat.reduceMul, Nat.reduceSub, Nat.reduceLeDiff, Nat.reduceLT, Nat.reduceEqDiff, Int.reduceNeg, Int.reduceLT, Int.reduceLE, Int.reduceEq, Int.reduceNe, Int.reduceAdd, Int.reduceSub, Int.reduceMul, Int.reduceToNat, Int.reduceBEq, Int.reduceBNe, T0, hse, slL, List.take_zero, List.filter_nil, q_cast, Int.natCast_zero]
      · have : stepF w a p x r at_ L = sieve (fun l => l.a == a) L := by simp [stepF, e5]
        simp only [this, List.take_zero, List.filter_nil, lsL]
        refine Wk.less ?_
        simp (config := { maxSteps := 10000000 }) only [EV1, EV2, EV3, EV4, EV5, EV6, addT, istep, lenR_sl, lenR_ns, lenR_es, pickR, putD, bin1R, un1R, slcR, bnd, capsOf, fillP, S_plain, V_plain, V.cells, S_known, V_known, C.v, blk, setL, setH, eqS, eq1, cmpS, cmp1, isNil, popTo, killT, setT, leT, V.below, C.below, S_below, R.below, V.val, C.val, S_val, R.val, R.takes, vals, shows, List.any_cons, List.any_nil, unnamed, V.kill, V.names, C.names, S_names, R.names, List.set, List.replicate, ↓q_cond_t, ↓q_cond_f, if_true, if_false, reduceCtorEq, rvals, rvC, result, C_known, V.noL, C.noL, S_noL, R.noL, Option.map, true_and, and_true, ge_iff_le, gt_iff_lt, implies_true, q_ite_t, q_ite_f, beq_iff_eq, bne_iff_ne, q_ne, Nat.reduceAdd, Nat.reducePow, Int.reducePow, Nat.reduceMul, Nat.reduceSub, Nat.reduceLeDiff, Nat.reduceLT, Nat.reduceEqDiff, Int.reduceNeg, Int.reduceLT, Int.reduceLE, Int.reduceEq, Int.reduceNe, Int.reduceAdd, Int.reduceSub, Int.reduceMul, Int.reduceToNat, Int.reduceBEq, Int.reduceBNe, T0, hse, slL, List.take_zero, List.filter_nil, q_cast, Int.natCast_zero]
      · have : stepF w a p x r at_ L = sieve (fun _ => true) L := by simp [stepF, e6]
        simp only [this, List.take_zero, List.filter_nil, lsL]
        refine Wk.less ?_
        simp (config := { maxSteps := 10000000 }) only [EV1, EV2, EV3, EV4, EV5, EV6, addT, istep, lenR_sl, lenR_ns, lenR_es, pickR, putD, bin1R, un1R, slcR, bnd, capsOf, fillP, S_plain, V_plain, V.cells, S_known, V_known, C.v, blk, setL, setH, eqS, eq1, cmpS, cmp1, isNil, popTo, killT, setT, leT, V.below, C.below, S_below, R.below, V.val, C.val, S_val, R.val, R.takes, vals, shows, List.any_cons, List.any_nil, unnamed, V.kill, V.names, C.names, S_names, R.names, List.set, List.replicate, ↓q_cond_t, ↓q_cond_f, if_true, if_false, reduceCtorEq, rvals, rvC, result, C_known, V.noL, C.noL, S_noL, R.noL, Option.map, true_and, and_true, ge_iff_le, gt_iff_lt, implies_true, q_ite_t, q_ite_f, beq_iff_eq, bne_iff_ne, q_ne, Nat.reduceAdd, Nat.reducePow, Int.reducePow, Nat.reduceMul, Nat.reduceSub, Nat.reduceLeDiff, Nat.reduceLT, Nat.reduceEqDiff, Int.reduceNeg, Int.reduceLT, Int.reduceLE, Int.reduceEq, Int.reduceNe, Int.reduceAdd, Int.reduceSub, Int.reduceMul, Int.reduceToNat, Int.reduceBEq, Int.reduceBNe, T0, hse, slL, List.take_zero, List.filter_nil, q_cast, Int.natCast_zero]
      · have : stepF w a p x r at_ L = L := by simp [stepF, e2, e3, e4, e5, e6]
        simp only [this, List.take_zero, List.filter_nil, lsL]
        refine Wk.less ?_
        simp (config := { maxSteps := 10000000 }) only [EV1, EV2, EV3, EV4, EV5, EV6, addT, istep, lenR_sl, lenR_ns, lenR_es, pickR, putD, bin1R, un1R, slcR, bnd, capsOf, fillP, S_plain, V_plain, V.cells, S_known, V_known, C.v, blk, setL, setH, eqS, eq1, cmpS, cmp1, isNil, popTo, killT, setT, leT, V.below, C.below, S_below, R.below, V.val, C.val, S_val, R.val, R.takes, vals, shows, List.any_cons, List.any_nil, unnamed, V.kill, V.names, C.names, S_names, R.names, List.set, List.replicate, ↓q_cond_t, ↓q_cond_f, if_true, if_false, reduceCtorEq, rvals, rvC, result, C_known, V.noL, C.noL, S_noL, R.noL, Option.map, true_and, and_true, ge_iff_le, gt_iff_lt, implies_true, q_ite_t, q_ite_f, beq_iff_eq, bne_iff_ne, q_ne, Nat.reduceAdd, Nat.reducePow, Int.reducePow, Nat.reduceMul, Nat.reduceSub, Nat.reduceLeDiff, Nat.reduceLT, Nat.reduceEqDiff, Int.reduceNeg, Int.reduceLT, Int.reduceLE, Int.reduceEq, Int.reduceNe, Int.reduceAdd, Int.reduceSub, Int.reduceMul, Int.reduceToNat, Int.reduceBEq, Int.reduceBNe, T0, hse, slL, List.take_zero, List.filter_nil, q_cast, Int.natCast_zero]
      rintro Y ⟨M, e, q, c⟩ ⟨hq, hM, he, hUc⟩ IH2
      simp only at hq hM he hUc IH2 ⊢
      have HsK := hs.arr M
      obtain ⟨U, hU⟩ : ∃ U, ((K'.take q).filter fun l => !goneB w a p e l) = U := ⟨_, rfl⟩
      rw [hU] at hUc
      simp only [hU]
      have hUl : U.length ≤ q := by rw [← hU]; exact Nat.le_trans (List.length_filter_le _ _) (by rw [List.length_take]; exact Nat.min_le_left _ _)
      rcases Nat.lt_or_ge q K'.length with h2 | h2
      · obtain ⟨k1, k2, k3, k4⟩ := idx h2 (by omega)
        obtain ⟨jk, ck, stk, roomk, hsk, hjk, hdk⟩ := HsK.at h2
        have E := Ln.at_ h2
        have hle := E.2.2.2.2.2.1
        obtain ⟨⟨la, lp, lx, lr⟩, hl⟩ : ∃ x, nth Ln.z K' q = x := ⟨_, rfl⟩
        have hU' : ((K'.take (q + 1)).filter fun l => !goneB w a p e l) = U ++ if goneB w a p e ⟨la, lp, lx, lr⟩ = true then [] else [⟨la, lp, lx, lr⟩] := by
          rw [List.take_succ_eq_append_getElem h2, List.filter_append, hU, ← nth_eq (d := Ln.z) h2, hl]
          simp only [List.filter_cons, List.filter_nil]
          cases goneB w a p e ⟨la, lp, lx, lr⟩ <;> rfl
        rw [hl] at E
        simp only at E
        have hgo : (bif w == 2 then
            bif e == 0 then
              la == a && lp == p ||
                bif w == 4 then la == a && lp == p || bif w == 5 then la == a || w == 6 else w == 6
                else bif w == 5 then la == a || w == 6 else w == 6
            else
              bif w == 4 then la == a && lp == p || bif w == 5 then la == a || w == 6 else w == 6
              else bif w == 5 then la == a || w == 6 else w == 6
          else
            bif w == 4 then la == a && lp == p || bif w == 5 then la == a || w == 6 else w == 6
            else bif w == 5 then la == a || w == 6 else w == 6) = goneB w a p e ⟨la, lp, lx, lr⟩ := by
          simp only [goneB]
          cases w == 2 <;> cases e == 0 <;> cases la == a && lp == p <;> cases w == 4 <;> cases w == 5 <;> cases la == a <;> rfl
        have z2 : K'.length - (q + 1) < K'.length - q := by omega
        have hnq : h.length ≤ (HH h M J).length := by rw [HH_len]; omega
        have hcq : clean (HH h M J).length (HH h M J) = true := HH_clean hc hnq
        have hpt : h.length < (HH h M J).length := by rw [HH_len]; omega
        have hjl2 : j < (HH h M J).length := Nat.lt_of_lt_of_le hjl hnq
        have hkl2 : jk < (HH h M J).length := (List.getElem?_eq_some_iff.1 hjk).1
        cases hv : U with
        | nil =>
          simp only [slL, lsL]
          refine run_sound (Tab.ok_Γ _) 600 _ _ _ _ ?_
          simp (config := { maxSteps := 10000000 }) only [EV1, EV2, EV3, EV4, EV5, EV6, addT, istep, lenR_sl, lenR_ns, lenR_es, pickR, putD, bin1R, un1R, slcR, bnd, capsOf, fillP, S_plain, V_plain, V.cells, S_known, V_known, C.v, blk, setL, setH, eqS, eq1, cmpS, cmp1, isNil, popTo, killT, setT, leT, V.below, C.below, S_below, R.below, V.val, C.val, S_val, R.val, R.takes, vals, shows, List.any_cons, List.any_nil, unnamed, V.kill, V.names, C.names, S_names, R.names, List.set, List.replicate, ↓q_cond_t, ↓q_cond_f, if_true, if_false, reduceCtorEq, rvals, rvC, result, C_known, V.noL, C.noL, S_noL, R.noL, Option.map, true_and, and_true, ge_iff_le, gt_iff_lt, implies_true, q_ite_t, q_ite_f, beq_iff_eq, bne_iff_ne, q_ne, Nat.reduceAdd, Nat.reducePow, Int.reducePow, Nat.reduceMul, Nat.reduceSub, Nat.reduceLeDiff, Nat.reduceLT, Nat.reduceEqDiff, Int.reduceNeg, Int.reduceLT, Int.reduceLE, Int.reduceEq, Int.reduceNe, Int.reduceAdd, Int.reduceSub, Int.reduceMul, Int.reduceToNat, Int.reduceBEq, Int.reduceBNe, T0, hse, hsk, k1, k2, k3, k4, hjk, hdk, E.1, E.2.1, E.2.2.1, hle]
          rw [hgo]
          refine ⟨fun hn c5 hc5 => ?_, fun hy => ?_⟩
          · have hn : goneB w a p e ⟨la, lp, lx, lr⟩ = false := by simpa using hn
            simp only [hv, hn, Bool.false_eq_true, if_false, List.nil_append] at hU'
            have hw : 1 ≤ c5 := hc5
            refine IH2 ⟨M, e, q + 1, c5⟩ _ z2 ⟨h2, hM, he, by simp only [hU']; exact hw⟩ ?_
            simp only [hU']
            refine Wk.sel [0, 2] (by decide) hnq ?_ ?_ ?_ ?_ hcq (clean_pick hcq _)
            · simp (config := { maxSteps := 10000000 }) only [EV1, EV2, EV3, EV4, EV5, EV6, addT, istep, lenR_sl, lenR_ns, lenR_es, pickR, putD, bin1R, un1R, slcR, bnd, capsOf, fillP, S_plain, V_plain, V.cells, S_known, V_known, C.v, blk, setL, setH, eqS, eq1, cmpS, cmp1, isNil, popTo, killT, setT, leT, V.below, C.below, S_below, R.below, V.val, C.val, S_val, R.val, R.takes, vals, shows, List.any_cons, List.any_nil, unnamed, V.kill, V.names, C.names, S_names, R.names, List.set, List.replicate, ↓q_cond_t, ↓q_cond_f, if_true, if_false, reduceCtorEq, rvals, rvC, result, C_known, V.noL, C.noL, S_noL, R.noL, Option.map, true_and, and_true, ge_iff_le, gt_iff_lt, implies_true, q_ite_t, q_ite_f, beq_iff_eq, bne_iff_ne, q_ne, Nat.reduceAdd, Nat.reducePow, Int.reducePow, Nat.reduceMul, Nat.reduceSub, Nat.reduceLeDiff, Nat.reduceLT, Nat.reduceEqDiff, Int.reduceNeg, Int.reduceLT, Int.reduceLE, Int.reduceEq, Int.reduceNe, Int.reduceAdd, Int.reduceSub, Int.reduceMul, Int.reduceToNat, Int.reduceBEq, Int.reduceBNe, List.nil_append, Blk.ren, V.ren, C.ren, S_ren, wc_ren, R.pick_g, R.pick_0, R.pick_s, List.map_append, wc_cons, wc_snoc, wc_nil, T0, slL, lsL, hse, hsk, hjl2, hkl2, hpt, arr, Ln.c]
            · simp (config := { maxSteps := 10000000 }) only [EV1, EV2, EV3, EV4, EV5, EV6, addT, istep, lenR_sl, lenR_ns, lenR_es, pickR, putD, bin1R, un1R, slcR, bnd, capsOf, fillP, S_plain, V_plain, V.cells, S_known, V_known, C.v, blk, setL, setH, eqS, eq1, cmpS, cmp1, isNil, popTo, killT, setT, leT, V.below, C.below, S_below, R.below, V.val, C.val, S_val, R.val, R.takes, vals, shows, List.any_cons, List.any_nil, unnamed, V.kill, V.names, C.names, S_names, R.names, List.set, List.replicate, ↓q_cond_t, ↓q_cond_f, if_true, if_false, reduceCtorEq, rvals, rvC, result, C_known, V.noL, C.noL, S_noL, R.noL, Option.map, true_and, and_true, ge_iff_le, gt_iff_lt, implies_true, q_ite_t, q_ite_f, beq_iff_eq, bne_iff_ne, q_ne, Nat.reduceAdd, Nat.reducePow, Int.reducePow, Nat.reduceMul, Nat.reduceSub, Nat.reduceLeDiff, Nat.reduceLT, Nat.reduceEqDiff, Int.reduceNeg, Int.reduceLT, Int.reduceLE, Int.reduceEq, Int.reduceNe, Int.reduceAdd, Int.reduceSub, Int.reduceMul, Int.reduceToNat, Int.reduceBEq, Int.reduceBNe, List.nil_append, Blk.ren, V.ren, C.ren, S_ren, wc_ren, R.pick_g, R.pick_0, R.pick_s, T0, slL, lsL, hse, hsk, hjl2, hkl2, hpt, arr, Ln.c]
            · simp (config := { maxSteps := 10000000 }) only [EV1, EV2, EV3, EV4, EV5, EV6, addT, istep, lenR_sl, lenR_ns, lenR_es, pickR, putD, bin1R, un1R, slcR, bnd, capsOf, fillP, S_plain, V_plain, V.cells, S_known, V_known, C.v, blk, setL, setH, eqS, eq1, cmpS, cmp1, isNil, popTo, killT, setT, leT, V.below, C.below, S_below, R.below, V.val, C.val, S_val, R.val, R.takes, vals, shows, List.any_cons, List.any_nil, unnamed, V.kill, V.names, C.names, S_names, R.names, List.set, List.replicate, ↓q_cond_t, ↓q_cond_f, if_true, if_false, reduceCtorEq, rvals, rvC, result, C_known, V.noL, C.noL, S_noL, R.noL, Option.map, true_and, and_true, ge_iff_le, gt_iff_lt, implies_true, q_ite_t, q_ite_f, beq_iff_eq, bne_iff_ne, q_ne, Nat.reduceAdd, Nat.reducePow, Int.reducePow, Nat.reduceMul, Nat.reduceSub, Nat.reduceLeDiff, Nat.reduceLT, Nat.reduceEqDiff, Int.reduceNeg, Int.reduceLT, Int.reduceLE, Int.reduceEq, Int.reduceNe, Int.reduceAdd, Int.reduceSub, Int.reduceMul, Int.reduceToNat, Int.reduceBEq, Int.reduceBNe, List.nil_append, app_len, nlt0, nltn, Nat.reduceLT, Nat.le_add_right, T0, slL, lsL, hse, hsk, hjl2, hkl2, hpt, arr, Ln.c]
            · simp (config := { maxSteps := 10000000 }) only [EV1, EV2, EV3, EV4, EV5, EV6, addT, istep, lenR_sl, lenR_ns, lenR_es, pickR, putD, bin1R, un1R, slcR, bnd, capsOf, fillP, S_plain, V_plain, V.cells, S_known, V_known, C.v, blk, setL, setH, eqS, eq1, cmpS, cmp1, isNil, popTo, killT, setT, leT, V.below, C.below, S_below, R.below, V.val, C.val, S_val, R.val, R.takes, vals, shows, List.any_cons, List.any_nil, unnamed, V.kill, V.names, C.names, S_names, R.names, List.set, List.replicate, ↓q_cond_t, ↓q_cond_f, if_true, if_false, reduceCtorEq, rvals, rvC, result, C_known, V.noL, C.noL, S_noL, R.noL, Option.map, true_and, and_true, ge_iff_le, gt_iff_lt, implies_true, q_ite_t, q_ite_f, beq_iff_eq, bne_iff_ne, q_ne, Nat.reduceAdd, Nat.reducePow, Int.reducePow, Nat.reduceMul, Nat.reduceSub, Nat.reduceLeDiff, Nat.reduceLT, Nat.reduceEqDiff, Int.reduceNeg, Int.reduceLT, Int.reduceLE, Int.reduceEq, Int.reduceNe, Int.reduceAdd, Int.reduceSub, Int.reduceMul, Int.reduceToNat, Int.reduceBEq, Int.reduceBNe, List.nil_append, app_len, nlt0, nltn, Nat.reduceLT, Nat.le_add_right, vals_cons, vals_nil, wc_val, wc_vals, T0, slL, lsL, hse, hsk, hjl2, hkl2, hpt, arr, Ln.c]
          · simp only [hv, hy, if_true, List.nil_append] at hU'
            refine IH2 ⟨M, e, q + 1, c⟩ _ z2 ⟨h2, hM, he, by simp only [hU']; exact Nat.zero_le _⟩ ?_
            simp only [hU', lsL]
            refine Wk.less ?_
            simp (config := { maxSteps := 10000000 }) only [EV1, EV2, EV3, EV4, EV5, EV6, addT, istep, lenR_sl, lenR_ns, lenR_es, pickR, putD, bin1R, un1R, slcR, bnd, capsOf, fillP, S_plain, V_plain, V.cells, S_known, V_known, C.v, blk, setL, setH, eqS, eq1, cmpS, cmp1, isNil, popTo, killT, setT, leT, V.below, C.below, S_below, R.below, V.val, C.val, S_val, R.val, R.takes, vals, shows, List.any_cons, List.any_nil, unnamed, V.kill, V.names, C.names, S_names, R.names, List.set, List.replicate, ↓q_cond_t, ↓q_cond_f, if_true, if_false, reduceCtorEq, rvals, rvC, result, C_known, V.noL, C.noL, S_noL, R.noL, Option.map, true_and, and_true, ge_iff_le, gt_iff_lt, implies_true, q_ite_t, q_ite_f, beq_iff_eq, bne_iff_ne, q_ne, Nat.reduceAdd, Nat.reducePow, Int.reducePow, Nat.reduceMul, Nat.reduceSub, Nat.reduceLeDiff, Nat.reduceLT, Nat.reduceEqDiff, Int.reduceNeg, Int.reduceLT, Int.reduceLE, Int.reduceEq, Int.reduceNe, Int.reduceAdd, Int.reduceSub, Int.reduceMul, Int.reduceToNat, Int.reduceBEq, Int.reduceBNe, T0, slL, hse, hsk]
        | cons y v =>
          have hk3 : (arr Ln.c (y :: v)).length = (v.length + 1) * 4 := arr_length Ln.c_len _
          have hk1 := arr_known (y :: v)
          have hk2 : (arr Ln.c (y :: v)).all (fun s => !S.names 1 s) = true := arr_ints _ (fun _ => rfl) _
          have hk4 : (v.length + 1 + 1) * 32 ≤ 140737488355328 := by simp only [hv, List.length_cons] at hUl; omega
          have hk5 : v.length + 1 ≤ c := by simpa [hv] using hUc
          have hk6 : (v.length + 1) * 4 ≤ c * 4 := Nat.mul_le_mul_right _ hk5
          simp only [slL, lsL]
          refine run_sound (Tab.ok_Γ _) 600 _ _ _ _ ?_
          simp (config := { maxSteps := 10000000 }) only [EV1, EV2, EV3, EV4, EV5, EV6, addT, istep, lenR_sl, lenR_ns, lenR_es, pickR, putD, bin1R, un1R, slcR, bnd, capsOf, fillP, S_plain, V_plain, V.cells, S_known, V_known, C.v, blk, setL, setH, eqS, eq1, cmpS, cmp1, isNil, popTo, killT, setT, leT, V.below, C.below, S_below, R.below, V.val, C.val, S_val, R.val, R.takes, vals, shows, List.any_cons, List.any_nil, unnamed, V.kill, V.names, C.names, S_names, R.names, List.set, List.replicate, ↓q_cond_t, ↓q_cond_f, if_true, if_false, reduceCtorEq, rvals, rvC, result, C_known, V.noL, C.noL, S_noL, R.noL, Option.map, true_and, and_true, ge_iff_le, gt_iff_lt, implies_true, q_ite_t, q_ite_f, beq_iff_eq, bne_iff_ne, q_ne, Nat.reduceAdd, Nat.reducePow, Int.reducePow, Nat.reduceMul, Nat.reduceSub, Nat.reduceLeDiff, Nat.reduceLT, Nat.reduceEqDiff, Int.reduceNeg, Int.reduceLT, Int.reduceLE, Int.reduceEq, Int.reduceNe, Int.reduceAdd, Int.reduceSub, Int.reduceMul, Int.reduceToNat, Int.reduceBEq, Int.reduceBNe, T0, hse, hsk, k1, k2, k3, k4, hjk, hdk, E.1, E.2.1, E.2.2.1, hle, hk1, hk2, hk3, hk4, hk5, hk6]
          rw [hgo]
          refine ⟨fun hn c5 hc5 => ?_, fun hy => ?_⟩
          · have hn : goneB w a p e ⟨la, lp, lx, lr⟩ = false := by simpa using hn
            simp only [hv, hn, Bool.false_eq_true, if_false, List.cons_append] at hU'
            have hw : (y :: (v ++ [(⟨la, lp, lx, lr⟩ : Ln)])).length ≤ c5 := by simpa using hc5
            have hlv : (v ++ [(⟨la, lp, lx, lr⟩ : Ln)]).length + 1 = v.length + 1 + 1 := by simp
            have ha : arr Ln.c (y :: (v ++ [(⟨la, lp, lx, lr⟩ : Ln)])) = arr Ln.c (y :: v) ++ [.i .i64 la, .i .i64 lp, .i .i64 lx, .i .i64 lr] := by rw [← List.cons_append, arr_append]; rfl
            have hra := fun ρ => arr_rens ρ (y :: v)
            have hva : ∀ n k, (arr Ln.c (y :: v)).all (S.val n k) = true := fun n k => arr_ints _ (fun _ => rfl) _
            refine IH2 ⟨M, e, q + 1, c5⟩ _ z2 ⟨h2, hM, he, by simp only [hU']; exact hw⟩ ?_
            simp only [hU', slL, lsL]
            rw [ha, hlv]
            refine Wk.sel [0, 1] (by decide) hnq ?_ ?_ ?_ ?_ hcq (clean_pick hcq _)
            · simp (config := { maxSteps := 10000000 }) only [EV1, EV2, EV3, EV4, EV5, EV6, addT, istep, lenR_sl, lenR_ns, lenR_es, pickR, putD, bin1R, un1R, slcR, bnd, capsOf, fillP, S_plain, V_plain, V.cells, S_known, V_known, C.v, blk, setL, setH, eqS, eq1, cmpS, cmp1, isNil, popTo, killT, setT, leT, V.below, C.below, S_below, R.below, V.val, C.val, S_val, R.val, R.takes, vals, shows, List.any_cons, List.any_nil, unnamed, V.kill, V.names, C.names, S_names, R.names, List.set, List.replicate, ↓q_cond_t, ↓q_cond_f, if_true, if_false, reduceCtorEq, rvals, rvC, result, C_known, V.noL, C.noL, S_noL, R.noL, Option.map, true_and, and_true, ge_iff_le, gt_iff_lt, implies_true, q_ite_t, q_ite_f, beq_iff_eq, bne_iff_ne, q_ne, Nat.reduceAdd, Nat.reducePow, Int.reducePow, Nat.reduceMul, Nat.reduceSub, Nat.reduceLeDiff, Nat.reduceLT, Nat.reduceEqDiff, Int.reduceNeg, Int.reduceLT, Int.reduceLE, Int.reduceEq, Int.reduceNe, Int.reduceAdd, Int.reduceSub, Int.reduceMul, Int.reduceToNat, Int.reduceBEq, Int.reduceBNe, List.nil_append, Blk.ren, V.ren, C.ren, S_ren, wc_ren, R.pick_g, R.pick_0, R.pick_s, List.map_append, wc_cons, wc_snoc, wc_nil, T0, hse, hsk, hjl2, hkl2, hpt, hra, hva, List.all_append, List.map_append]
            · simp (config := { maxSteps := 10000000 }) only [EV1, EV2, EV3, EV4, EV5, EV6, addT, istep, lenR_sl, lenR_ns, lenR_es, pickR, putD, bin1R, un1R, slcR, bnd, capsOf, fillP, S_plain, V_plain, V.cells, S_known, V_known, C.v, blk, setL, setH, eqS, eq1, cmpS, cmp1, isNil, popTo, killT, setT, leT, V.below, C.below, S_below, R.below, V.val, C.val, S_val, R.val, R.takes, vals, shows, List.any_cons, List.any_nil, unnamed, V.kill, V.names, C.names, S_names, R.names, List.set, List.replicate, ↓q_cond_t, ↓q_cond_f, if_true, if_false, reduceCtorEq, rvals, rvC, result, C_known, V.noL, C.noL, S_noL, R.noL, Option.map, true_and, and_true, ge_iff_le, gt_iff_lt, implies_true, q_ite_t, q_ite_f, beq_iff_eq, bne_iff_ne, q_ne, Nat.reduceAdd, Nat.reducePow, Int.reducePow, Nat.reduceMul, Nat.reduceSub, Nat.reduceLeDiff, Nat.reduceLT, Nat.reduceEqDiff, Int.reduceNeg, Int.reduceLT, Int.reduceLE, Int.reduceEq, Int.reduceNe, Int.reduceAdd, Int.reduceSub, Int.reduceMul, Int.reduceToNat, Int.reduceBEq, Int.reduceBNe, List.nil_append, Blk.ren, V.ren, C.ren, S_ren, wc_ren, R.pick_g, R.pick_0, R.pick_s, T0, hse, hsk, hjl2, hkl2, hpt, hra, hva, List.all_append, List.map_append]
            · simp (config := { maxSteps := 10000000 }) only [EV1, EV2, EV3, EV4, EV5, EV6, addT, istep, lenR_sl, lenR_ns, lenR_es, pickR, putD, bin1R, un1R, slcR, bnd, capsOf, fillP, S_plain, V_plain, V.cells, S_known, V_known, C.v, blk, setL, setH, eqS, eq1, cmpS, cmp1, isNil, popTo, killT, setT, leT, V.below, C.below, S_below, R.below, V.val, C.val, S_val, R.val, R.takes, vals, shows, List.any_cons, List.any_nil, unnamed, V.kill, V.names, C.names, S_names, R.names, List.set, List.replicate, ↓q_cond_t, ↓q_cond_f, if_true, if_false, reduceCtorEq, rvals, rvC, result, C_known, V.noL, C.noL, S_noL, R.noL, Option.map, true_and, and_true, ge_iff_le, gt_iff_lt, implies_true, q_ite_t, q_ite_f, beq_iff_eq, bne_iff_ne, q_ne, Nat.reduceAdd, Nat.reducePow, Int.reducePow, Nat.reduceMul, Nat.reduceSub, Nat.reduceLeDiff, Nat.reduceLT, Nat.reduceEqDiff, Int.reduceNeg, Int.reduceLT, Int.reduceLE, Int.reduceEq, Int.reduceNe, Int.reduceAdd, Int.reduceSub, Int.reduceMul, Int.reduceToNat, Int.reduceBEq, Int.reduceBNe, List.nil_append, app_len, nlt0, nltn, Nat.reduceLT, Nat.le_add_right, T0, hse, hsk, hjl2, hkl2, hpt, hra, hva, List.all_append, List.map_append]
            · simp (config := { maxSteps := 10000000 }) only [EV1, EV2, EV3, EV4, EV5, EV6, addT, istep, lenR_sl, lenR_ns, lenR_es, pickR, putD, bin1R, un1R, slcR, bnd, capsOf, fillP, S_plain, V_plain, V.cells, S_known, V_known, C.v, blk, setL, setH, eqS, eq1, cmpS, cmp1, isNil, popTo, killT, setT, leT, V.below, C.below, S_below, R.below, V.val, C.val, S_val, R.val, R.takes, vals, shows, List.any_cons, List.any_nil, unnamed, V.kill, V.names, C.names, S_names, R.names, List.set, List.replicate, ↓q_cond_t, ↓q_cond_f, if_true, if_false, reduceCtorEq, rvals, rvC, result, C_known, V.noL, C.noL, S_noL, R.noL, Option.map, true_and, and_true, ge_iff_le, gt_iff_lt, implies_true, q_ite_t, q_ite_f, beq_iff_eq, bne_iff_ne, q_ne, Nat.reduceAdd, Nat.reducePow, Int.reducePow, Nat.reduceMul, Nat.reduceSub, Nat.reduceLeDiff, Nat.reduceLT, Nat.reduceEqDiff, Int.reduceNeg, Int.reduceLT, Int.reduceLE, Int.reduceEq, Int.reduceNe, Int.reduceAdd, Int.reduceSub, Int.reduceMul, Int.reduceToNat, Int.reduceBEq, Int.reduceBNe, List.nil_append, app_len, nlt0, nltn, Nat.reduceLT, Nat.le_add_right, vals_cons, vals_nil, wc_val, wc_vals, T0, hse, hsk, hjl2, hkl2, hpt, hra, hva, List.all_append, List.map_append]
          · simp only [hv, hy, if_true, List.append_nil] at hU'
            refine IH2 ⟨M, e, q + 1, c⟩ _ z2 ⟨h2, hM, he, by simp only [hU']; exact hk5⟩ ?_
            simp only [hU', lsL]
            refine Wk.less ?_
            simp (config := { maxSteps := 10000000 }) only [EV1, EV2, EV3, EV4, EV5, EV6, addT, istep, lenR_sl, lenR_ns, lenR_es, pickR, putD, bin1R, un1R, slcR, bnd, capsOf, fillP, S_plain, V_plain, V.cells, S_known, V_known, C.v, blk, setL, setH, eqS, eq1, cmpS, cmp1, isNil, popTo, killT, setT, leT, V.below, C.below, S_below, R.below, V.val, C.val, S_val, R.val, R.takes, vals, shows, List.any_cons, List.any_nil, unnamed, V.kill, V.names, C.names, S_names, R.names, List.set, List.replicate, ↓q_cond_t, ↓q_cond_f, if_true, if_false, reduceCtorEq, rvals, rvC, result, C_known, V.noL, C.noL, S_noL, R.noL, Option.map, true_and, and_true, ge_iff_le, gt_iff_lt, implies_true, q_ite_t, q_ite_f, beq_iff_eq, bne_iff_ne, q_ne, Nat.reduceAdd, Nat.reducePow, Int.reducePow, Nat.reduceMul, Nat.reduceSub, Nat.reduceLeDiff, Nat.reduceLT, Nat.reduceEqDiff, Int.reduceNeg, Int.reduceLT, Int.reduceLE, Int.reduceEq, Int.reduceNe, Int.reduceAdd, Int.reduceSub, Int.reduceMul, Int.reduceToNat, Int.reduceBEq, Int.reduceBNe, T0, slL, hse, hsk]
      · have e5 : q = K'.length := by omega
        subst e5
        rw [List.take_length] at hU
        have hlenk := fun ls h' => HsK.sl.len (ls := ls) (h := h')
        have gM : okT M := by rw [hM]; exact okT_step g _ _ _ _ _ _
        have hM8 := gM.len
        have cM : covers M (U ++ if w = 2 ∧ e = 0 then [⟨a, p, x, r⟩] else []) := by rw [← hU, hM]; exact covers_step g hcv w a p x r at_ e he
        obtain ⟨gl, hgl⟩ : ∃ gl, (HH h M J).length = gl := ⟨_, rfl⟩
        have hgl2 : (HH h M (J ++ [(M, 32)]))[gl]? = some (ownB M) := by rw [← hgl, HH_len, HH_at]; simp [mkB, ownB]
        obtain ⟨J', hJ'⟩ : ∃ J', J ++ [(M, 32)] = J' := ⟨_, rfl⟩
        rw [hJ'] at hgl2
        have hnq : h.length ≤ (HH h M J').length := by rw [HH_len]; omega
        have hcq : clean (HH h M J').length (HH h M J') = true := HH_clean hc hnq
        have hpt : h.length < (HH h M J').length := by rw [HH_len]; omega
        have hjl2 : j < (HH h M J').length := Nat.lt_of_lt_of_le hjl hnq
        have hgl3 : gl < (HH h M J').length := (List.getElem?_eq_some_iff.1 hgl2).1
        have hra := arr_rens
        have hva : ∀ (n k : Nat) (X : List Ln), (arr Ln.c X).all (S.val n k) = true := fun n k X => arr_ints _ (fun _ => rfl) _
        refine loop_join (α := St3) (fun y => setT [(0, .s s0), (3, .s (.b true)), (4, .s (.p (.g h.length) 0)), (5, .s (slL 1 y.F y.c)), (6, .s (.i .i64 i)), (13, .s (.sl (.g gl) 0 8 8)), (14, .s (.i .i64 y.j))] T0)
          (fun y => ⟨.rw, [.i .i64 w, .i .i64 a, .i .i64 p, .i .i64 x, .i .i64 r, .i .i64 at_], 6⟩ :: lsL y.F y.c) (fun y => HH h M J')
          (fun y => y.j ≤ 8 ∧ covers M y.F ∧ y.F.length ≤ y.c ∧ y.F.length ≤ i + 1) (fun y => 8 - y.j) (fun main => by
            cases hv : U with
            | nil =>
              simp only [slL, lsL]
              refine run_sound (Tab.ok_Γ _) 600 _ _ _ _ ?_
              simp (config := { maxSteps := 10000000 }) only [EV1, EV2, EV3, EV4, EV5, EV6, addT, istep, lenR_sl, lenR_ns, lenR_es, pickR, putD, bin1R, un1R, slcR, bnd, capsOf, fillP, S_plain, V_plain, V.cells, S_known, V_known, C.v, blk, setL, setH, eqS, eq1, cmpS, cmp1, isNil, popTo, killT, setT, leT, V.below, C.below, S_below, R.below, V.val, C.val, S_val, R.val, R.takes, vals, shows, List.any_cons, List.any_nil, unnamed, V.kill, V.names, C.names, S_names, R.names, List.set, List.replicate, ↓q_cond_t, ↓q_cond_f, if_true, if_false, reduceCtorEq, rvals, rvC, result, C_known, V.noL, C.noL, S_noL, R.noL, Option.map, true_and, and_true, ge_iff_le, gt_iff_lt, implies_true, q_ite_t, q_ite_f, beq_iff_eq, bne_iff_ne, q_ne, Nat.reduceAdd, Nat.reducePow, Int.reducePow, Nat.reduceMul, Nat.reduceSub, Nat.reduceLeDiff, Nat.reduceLT, Nat.reduceEqDiff, Int.reduceNeg, Int.reduceLT, Int.reduceLE, Int.reduceEq, Int.reduceNe, Int.reduceAdd, Int.reduceSub, Int.reduceMul, Int.reduceToNat, Int.reduceBEq, Int.reduceBNe, T0, hse, hlenk, Int.lt_irrefl, TH, linesG, HH_get, HH_own, isTlb_tlbB, tlbB_cells, dec_arr, hM8, hgl, hJ']
              refine ⟨fun hq c6 hc6 => ?_, fun hq => ?_⟩
              · have cM : covers M [⟨a, p, x, r⟩] := by simpa [hv, hq] using cM
                have hc6 : 1 ≤ c6 := hc6
                refine main _ _ _ ⟨[⟨a, p, x, r⟩], c6, 0⟩ ⟨Nat.zero_le _, cM, hc6, by simp⟩ ?_
                simp only [slL, lsL]
                refine Wk.sel [0, 2] (by decide) hnq ?_ ?_ ?_ ?_ hcq (clean_pick hcq _)
                · simp (config := { maxSteps := 10000000 }) only [EV1, EV2, EV3, EV4, EV5, EV6, addT, istep, lenR_sl, lenR_ns, lenR_es, pickR, putD, bin1R, un1R, slcR, bnd, capsOf, fillP, S_plain, V_plain, V.cells, S_known, V_known, C.v, blk, setL, setH, eqS, eq1, cmpS, cmp1, isNil, popTo, killT, setT, leT, V.below, C.below, S_below, R.below, V.val, C.val, S_val, R.val, R.takes, vals, shows, List.any_cons, List.any_nil, unnamed, V.kill, V.names, C.names, S_names, R.names, List.set, List.replicate, ↓q_cond_t, ↓q_cond_f, if_true, if_false, reduceCtorEq, rvals, rvC, result, C_known, V.noL, C.noL, S_noL, R.noL, Option.map, true_and, and_true, ge_iff_le, gt_iff_lt, implies_true, q_ite_t, q_ite_f, beq_iff_eq, bne_iff_ne, q_ne, Nat.reduceAdd, Nat.reducePow, Int.reducePow, Nat.reduceMul, Nat.reduceSub, Nat.reduceLeDiff, Nat.reduceLT, Nat.reduceEqDiff, Int.reduceNeg, Int.reduceLT, Int.reduceLE, Int.reduceEq, Int.reduceNe, Int.reduceAdd, Int.reduceSub, Int.reduceMul, Int.reduceToNat, Int.reduceBEq, Int.reduceBNe, List.nil_append, Blk.ren, V.ren, C.ren, S_ren, wc_ren, R.pick_g, R.pick_0, R.pick_s, List.map_append, wc_cons, wc_snoc, wc_nil, T0, hse, hjl2, hgl3, hpt, arr, Ln.c, Int.natCast_zero]
                · simp (config := { maxSteps := 10000000 }) only [EV1, EV2, EV3, EV4, EV5, EV6, addT, istep, lenR_sl, lenR_ns, lenR_es, pickR, putD, bin1R, un1R, slcR, bnd, capsOf, fillP, S_plain, V_plain, V.cells, S_known, V_known, C.v, blk, setL, setH, eqS, eq1, cmpS, cmp1, isNil, popTo, killT, setT, leT, V.below, C.below, S_below, R.below, V.val, C.val, S_val, R.val, R.takes, vals, shows, List.any_cons, List.any_nil, unnamed, V.kill, V.names, C.names, S_names, R.names, List.set, List.replicate, ↓q_cond_t, ↓q_cond_f, if_true, if_false, reduceCtorEq, rvals, rvC, result, C_known, V.noL, C.noL, S_noL, R.noL, Option.map, true_and, and_true, ge_iff_le, gt_iff_lt, implies_true, q_ite_t, q_ite_f, beq_iff_eq, bne_iff_ne, q_ne, Nat.reduceAdd, Nat.reducePow, Int.reducePow, Nat.reduceMul, Nat.reduceSub, Nat.reduceLeDiff, Nat.reduceLT, Nat.reduceEqDiff, Int.reduceNeg, Int.reduceLT, Int.reduceLE, Int.reduceEq, Int.reduceNe, Int.reduceAdd, Int.reduceSub, Int.reduceMul, Int.reduceToNat, Int.reduceBEq, Int.reduceBNe, List.nil_append, Blk.ren, V.ren, C.ren, S_ren, wc_ren, R.pick_g, R.pick_0, R.pick_s, T0, hse, hjl2, hgl3, hpt, arr, Ln.c, Int.natCast_zero]
                · simp (config := { maxSteps := 10000000 }) only [EV1, EV2, EV3, EV4, EV5, EV6, addT, istep, lenR_sl, lenR_ns, lenR_es, pickR, putD, bin1R, un1R, slcR, bnd, capsOf, fillP, S_plain, V_plain, V.cells, S_known, V_known, C.v, blk, setL, setH, eqS, eq1, cmpS, cmp1, isNil, popTo, killT, setT, leT, V.below, C.below, S_below, R.below, V.val, C.val, S_val, R.val, R.takes, vals, shows, List.any_cons, List.any_nil, unnamed, V.kill, V.names, C.names, S_names, R.names, List.set, List.replicate, ↓q_cond_t, ↓q_cond_f, if_true, if_false, reduceCtorEq, rvals, rvC, result, C_known, V.noL, C.noL, S_noL, R.noL, Option.map, true_and, and_true, ge_iff_le, gt_iff_lt, implies_true, q_ite_t, q_ite_f, beq_iff_eq, bne_iff_ne, q_ne, Nat.reduceAdd, Nat.reducePow, Int.reducePow, Nat.reduceMul, Nat.reduceSub, Nat.reduceLeDiff, Nat.reduceLT, Nat.reduceEqDiff, Int.reduceNeg, Int.reduceLT, Int.reduceLE, Int.reduceEq, Int.reduceNe, Int.reduceAdd, Int.reduceSub, Int.reduceMul, Int.reduceToNat, Int.reduceBEq, Int.reduceBNe, List.nil_append, app_len, nlt0, nltn, Nat.reduceLT, Nat.le_add_right, T0, hse, hjl2, hgl3, hpt, arr, Ln.c, Int.natCast_zero]
                · simp (config := { maxSteps := 10000000 }) only [EV1, EV2, EV3, EV4, EV5, EV6, addT, istep, lenR_sl, lenR_ns, lenR_es, pickR, putD, bin1R, un1R, slcR, bnd, capsOf, fillP, S_plain, V_plain, V.cells, S_known, V_known, C.v, blk, setL, setH, eqS, eq1, cmpS, cmp1, isNil, popTo, killT, setT, leT, V.below, C.below, S_below, R.below, V.val, C.val, S_val, R.val, R.takes, vals, shows, List.any_cons, List.any_nil, unnamed, V.kill, V.names, C.names, S_names, R.names, List.set, List.replicate, ↓q_cond_t, ↓q_cond_f, if_true, if_false, reduceCtorEq, rvals, rvC, result, C_known, V.noL, C.noL, S_noL, R.noL, Option.map, true_and, and_true, ge_iff_le, gt_iff_lt, implies_true, q_ite_t, q_ite_f, beq_iff_eq, bne_iff_ne, q_ne, Nat.reduceAdd, Nat.reducePow, Int.reducePow, Nat.reduceMul, Nat.reduceSub, Nat.reduceLeDiff, Nat.reduceLT, Nat.reduceEqDiff, Int.reduceNeg, Int.reduceLT, Int.reduceLE, Int.reduceEq, Int.reduceNe, Int.reduceAdd, Int.reduceSub, Int.reduceMul, Int.reduceToNat, Int.reduceBEq, Int.reduceBNe, List.nil_append, app_len, nlt0, nltn, Nat.reduceLT, Nat.le_add_right, vals_cons, vals_nil, wc_val, wc_vals, T0, hse, hjl2, hgl3, hpt, arr, Ln.c, Int.natCast_zero]
              · have cM : covers M [] := by simpa [hv, hq] using cM
                refine main _ _ _ ⟨[], c, 0⟩ ⟨Nat.zero_le _, cM, Nat.zero_le _, Nat.zero_le _⟩ ?_
                simp only [slL, lsL]
                refine Wk.less ?_
                simp (config := { maxSteps := 10000000 }) only [EV1, EV2, EV3, EV4, EV5, EV6, addT, istep, lenR_sl, lenR_ns, lenR_es, pickR, putD, bin1R, un1R, slcR, bnd, capsOf, fillP, S_plain, V_plain, V.cells, S_known, V_known, C.v, blk, setL, setH, eqS, eq1, cmpS, cmp1, isNil, popTo, killT, setT, leT, V.below, C.below, S_below, R.below, V.val, C.val, S_val, R.val, R.takes, vals, shows, List.any_cons, List.any_nil, unnamed, V.kill, V.names, C.names, S_names, R.names, List.set, List.replicate, ↓q_cond_t, ↓q_cond_f, if_true, if_false, reduceCtorEq, rvals, rvC, result, C_known, V.noL, C.noL, S_noL, R.noL, Option.map, true_and, and_true, ge_iff_le, gt_iff_lt, implies_true, q_ite_t, q_ite_f, beq_iff_eq, bne_iff_ne, q_ne, Nat.reduceAdd, Nat.reducePow, Int.reducePow, Nat.reduceMul, Nat.reduceSub, Nat.reduceLeDiff, Nat.reduceLT, Nat.reduceEqDiff, Int.reduceNeg, Int.reduceLT, Int.reduceLE, Int.reduceEq, Int.reduceNe, Int.reduceAdd, Int.reduceSub, Int.reduceMul, Int.reduceToNat, Int.reduceBEq, Int.reduceBNe, T0, hse, slL, q_cast, Int.natCast_zero]
            | cons y v =>
              have hk3 : (arr Ln.c (y :: v)).length = (v.length + 1) * 4 := arr_length Ln.c_len _
              have hk1 := arr_known (y :: v)
              have hk2 : (arr Ln.c (y :: v)).all (fun s => !S.names 1 s) = true := arr_ints _ (fun _ => rfl) _
              have hk7 : v.length + 1 ≤ i := by simp only [hv, List.length_cons] at hUl; omega
              have hk4 : (v.length + 1 + 1) * 32 ≤ 140737488355328 := by omega
              have hk5 : v.length + 1 ≤ c := by simpa [hv] using hUc
              have hk6 : (v.length + 1) * 4 ≤ c * 4 := Nat.mul_le_mul_right _ hk5
              simp only [slL, lsL]
              refine run_sound (Tab.ok_Γ _) 600 _ _ _ _ ?_
              simp (config := { maxSteps := 10000000 }) only [EV1, EV2, EV3, EV4, EV5, EV6, addT, istep, lenR_sl, lenR_ns, lenR_es, pickR, putD, bin1R, un1R, slcR, bnd, capsOf, fillP, S_plain, V_plain, V.cells, S_known, V_known, C.v, blk, setL, setH, eqS, eq1, cmpS, cmp1, isNil, popTo, killT, setT, leT, V.below, C.below, S_below, R.below, V.val, C.val, S_val, R.val, R.takes, vals, shows, List.any_cons, List.any_nil, unnamed, V.kill, V.names, C.names, S_names, R.names, List.set, List.replicate, ↓q_cond_t, ↓q_cond_f, if_true, if_false, reduceCtorEq, rvals, rvC, result, C_known, V.noL, C.noL, S_noL, R.noL, Option.map, true_and, and_true, ge_iff_le, gt_iff_lt, implies_true, q_ite_t, q_ite_f, beq_iff_eq, bne_iff_ne, q_ne, Nat.reduceAdd, Nat.reducePow, Int.reducePow, Nat.reduceMul, Nat.reduceSub, Nat.reduceLeDiff, Nat.reduceLT, Nat.reduceEqDiff, Int.reduceNeg, Int.reduceLT, Int.reduceLE, Int.reduceEq, Int.reduceNe, Int.reduceAdd, Int.reduceSub, Int.reduceMul, Int.reduceToNat, Int.reduceBEq, Int.reduceBNe, T0, hse, hlenk, Int.lt_irrefl, TH, linesG, HH_get, HH_own, isTlb_tlbB, tlbB_cells, dec_arr, hM8, hgl, hJ', hk1, hk2, hk3, hk4, hk5, hk6]
              refine ⟨fun hq c6 hc6 => ?_, fun hq => ?_⟩
              · have cM : covers M (y :: (v ++ [⟨a, p, x, r⟩])) := by simpa [hv, hq] using cM
                have hw : (y :: (v ++ [(⟨a, p, x, r⟩ : Ln)])).length ≤ c6 := by simpa using hc6
                have hlv : (v ++ [(⟨a, p, x, r⟩ : Ln)]).length + 1 = v.length + 1 + 1 := by simp
                have ha : arr Ln.c (y :: (v ++ [(⟨a, p, x, r⟩ : Ln)])) = arr Ln.c (y :: v) ++ [.i .i64 a, .i .i64 p, .i .i64 x, .i .i64 r] := by rw [← List.cons_append, arr_append]; rfl
                refine main _ _ _ ⟨y :: (v ++ [⟨a, p, x, r⟩]), c6, 0⟩ ⟨Nat.zero_le _, cM, hw, by simp; omega⟩ ?_
                simp only [slL, lsL]
                rw [ha, hlv]
                refine Wk.sel [0, 1] (by decide) hnq ?_ ?_ ?_ ?_ hcq (clean_pick hcq _)
                · simp (config := { maxSteps := 10000000 }) only [EV1, EV2, EV3, EV4, EV5, EV6, addT, istep, lenR_sl, lenR_ns, lenR_es, pickR, putD, bin1R, un1R, slcR, bnd, capsOf, fillP, S_plain, V_plain, V.cells, S_known, V_known, C.v, blk, setL, setH, eqS, eq1, cmpS, cmp1, isNil, popTo, killT, setT, leT, V.below, C.below, S_below, R.below, V.val, C.val, S_val, R.val, R.takes, vals, shows, List.any_cons, List.any_nil, unnamed, V.kill, V.names, C.names, S_names, R.names, List.set, List.replicate, ↓q_cond_t, ↓q_cond_f, if_true, if_false, reduceCtorEq, rvals, rvC, result, C_known, V.noL, C.noL, S_noL, R.noL, Option.map, true_and, and_true, ge_iff_le, gt_iff_lt, implies_true, q_ite_t, q_ite_f, beq_iff_eq, bne_iff_ne, q_ne, Nat.reduceAdd, Nat.reducePow, Int.reducePow, Nat.reduceMul, Nat.reduceSub, Nat.reduceLeDiff, Nat.reduceLT, Nat.reduceEqDiff, Int.reduceNeg, Int.reduceLT, Int.reduceLE, Int.reduceEq, Int.reduceNe, Int.reduceAdd, Int.reduceSub, Int.reduceMul, Int.reduceToNat, Int.reduceBEq, Int.reduceBNe, List.nil_append, Blk.ren, V.ren, C.ren, S_ren, wc_ren, R.pick_g, R.pick_0, R.pick_s, List.map_append, wc_cons, wc_snoc, wc_nil, T0, hse, hjl2, hgl3, hpt, hra, hva, List.all_append, List.map_append, Int.natCast_zero]
                · simp (config := { maxSteps := 10000000 }) only [EV1, EV2, EV3, EV4, EV5, EV6, addT, istep, lenR_sl, lenR_ns, lenR_es, pickR, putD, bin1R, un1R, slcR, bnd, capsOf, fillP, S_plain, V_plain, V.cells, S_known, V_known, C.v, blk, setL, setH, eqS, eq1, cmpS, cmp1, isNil, popTo, killT, setT, leT, V.below, C.below, S_below, R.below, V.val, C.val, S_val, R.val, R.takes, vals, shows, List.any_cons, List.any_nil, unnamed, V.kill, V.names, C.names, S_names, R.names, List.set, List.replicate, ↓q_cond_t, ↓q_cond_f, if_true, if_false, reduceCtorEq, rvals, rvC, result, C_known, V.noL, C.noL, S_noL, R.noL, Option.map, true_and, and_true, ge_iff_le, gt_iff_lt, implies_true, q_ite_t, q_ite_f, beq_iff_eq, bne_iff_ne, q_ne, Nat.reduceAdd, Nat.reducePow, Int.reducePow, Nat.reduceMul, Nat.reduceSub, Nat.reduceLeDiff, Nat.reduceLT, Nat.reduceEqDiff, Int.reduceNeg, Int.reduceLT, Int.reduceLE, Int.reduceEq, Int.reduceNe, Int.reduceAdd, Int.reduceSub, Int.reduceMul, Int.reduceToNat, Int.reduceBEq, Int.reduceBNe, List.nil_append, Blk.ren, V.ren, C.ren, S_ren, wc_ren, R.pick_g, R.pick_0, R.pick_s, T0, hse, hjl2, hgl3, hpt, hra, hva, List.all_append, List.map_append, Int.natCast_zero]
                · simp (config := { maxSteps := 10000000 }) only [EV1, EV2, EV3, EV4, EV5, EV6, addT, istep, lenR_sl, lenR_ns, lenR_es, pickR, putD, bin1R, un1R, slcR, bnd, capsOf, fillP, S_plain, V_plain, V.cells, S_known, V_known, C.v, blk, setL, setH, eqS, eq1, cmpS, cmp1, isNil, popTo, killT, setT, leT, V.below, C.below, S_below, R.below, V.val, C.val, S_val, R.val, R.takes, vals, shows, List.any_cons, List.any_nil, unnamed, V.kill, V.names, C.names, S_names, R.names, List.set, List.replicate, ↓q_cond_t, ↓q_cond_f, if_true, if_false, reduceCtorEq, rvals, rvC, result, C_known, V.noL, C.noL, S_noL, R.noL, Option.map, true_and, and_true, ge_iff_le, gt_iff_lt, implies_true, q_ite_t, q_ite_f, beq_iff_eq, bne_iff_ne, q_ne, Nat.reduceAdd, Nat.reducePow, Int.reducePow, Nat.reduceMul, Nat.reduceSub, Nat.reduceLeDiff, Nat.reduceLT, Nat.reduceEqDiff, Int.reduceNeg, Int.reduceLT, Int.reduceLE, Int.reduceEq, Int.reduceNe, Int.reduceAdd, Int.reduceSub, Int.reduceMul, Int.reduceToNat, Int.reduceBEq, Int.reduceBNe, List.nil_append, app_len, nlt0, nltn, Nat.reduceLT, Nat.le_add_right, T0, hse, hjl2, hgl3, hpt, hra, hva, List.all_append, List.map_append, Int.natCast_zero]
                · simp (config := { maxSteps := 10000000 }) only [EV1, EV2, EV3, EV4, EV5, EV6, addT, istep, lenR_sl, lenR_ns, lenR_es, pickR, putD, bin1R, un1R, slcR, bnd, capsOf, fillP, S_plain, V_plain, V.cells, S_known, V_known, C.v, blk, setL, setH, eqS, eq1, cmpS, cmp1, isNil, popTo, killT, setT, leT, V.below, C.below, S_below, R.below, V.val, C.val, S_val, R.val, R.takes, vals, shows, List.any_cons, List.any_nil, unnamed, V.kill, V.names, C.names, S_names, R.names, List.set, List.replicate, ↓q_cond_t, ↓q_cond_f, if_true, if_false, reduceCtorEq, rvals, rvC, result, C_known, V.noL, C.noL, S_noL, R.noL, Option.map, true_and, and_true, ge_iff_le, gt_iff_lt, implies_true, q_ite_t, q_ite_f, beq_iff_eq, bne_iff_ne, q_ne, Nat.reduceAdd, Nat.reducePow, Int.reducePow, Nat.reduceMul, Nat.reduceSub, Nat.reduceLeDiff, Nat.reduceLT, Nat.reduceEqDiff, Int.reduceNeg, Int.reduceLT, Int.reduceLE, Int.reduceEq, Int.reduceNe, Int.reduceAdd, Int.reduceSub, Int.reduceMul, Int.reduceToNat, Int.reduceBEq, Int.reduceBNe, List.nil_append, app_len, nlt0, nltn, Nat.reduceLT, Nat.le_add_right, vals_cons, vals_nil, wc_val, wc_vals, T0, hse, hjl2, hgl3, hpt, hra, hva, List.all_append, List.map_append, Int.natCast_zero]
              · have cM : covers M (y :: v) := by simpa [hv, hq] using cM
                refine main _ _ _ ⟨y :: v, c, 0⟩ ⟨Nat.zero_le _, cM, hk5, by simp; omega⟩ ?_
                simp only [slL, lsL]
                refine Wk.less ?_
                simp (config := { maxSteps := 10000000 }) only [EV1, EV2, EV3, EV4, EV5, EV6, addT, istep, lenR_sl, lenR_ns, lenR_es, pickR, putD, bin1R, un1R, slcR, bnd, capsOf, fillP, S_plain, V_plain, V.cells, S_known, V_known, C.v, blk, setL, setH, eqS, eq1, cmpS, cmp1, isNil, popTo, killT, setT, leT, V.below, C.below, S_below, R.below, V.val, C.val, S_val, R.val, R.takes, vals, shows, List.any_cons, List.any_nil, unnamed, V.kill, V.names, C.names, S_names, R.names, List.set, List.replicate, ↓q_cond_t, ↓q_cond_f, if_true, if_false, reduceCtorEq, rvals, rvC, result, C_known, V.noL, C.noL, S_noL, R.noL, Option.map, true_and, and_true, ge_iff_le, gt_iff_lt, implies_true, q_ite_t, q_ite_f, beq_iff_eq, bne_iff_ne, q_ne, Nat.reduceAdd, Nat.reducePow, Int.reducePow, Nat.reduceMul, Nat.reduceSub, Nat.reduceLeDiff, Nat.reduceLT, Nat.reduceEqDiff, Int.reduceNeg, Int.reduceLT, Int.reduceLE, Int.reduceEq, Int.reduceNe, Int.reduceAdd, Int.reduceSub, Int.reduceMul, Int.reduceToNat, Int.reduceBEq, Int.reduceBNe, T0, hse, slL, q_cast, Int.natCast_zero]) ?_
        rintro Z ⟨F, c8, jj⟩ ⟨hjj, hcF, hFc, hFi⟩ IH3
        simp only at hjj hcF hFc hFi IH3 ⊢
        rcases Nat.lt_or_ge jj 8 with h3 | h3
        · obtain ⟨l1, l2, l3, l4⟩ := idx h3 (by omega)
          have E8 := Ln.at_ (L := M) (i := jj) (by omega)
          have hle8 : jj * 4 + 4 ≤ (arr Ln.c M).length := E8.2.2.2.2.2.1
          have hg8 : M[jj]? = some (nth Ln.z M jj) := nth_get (by omega)
          obtain ⟨⟨ma, mp, mx, mr⟩, hm⟩ : ∃ x, nth Ln.z M jj = x := ⟨_, rfl⟩
          rw [hm] at E8 hg8
          simp only at E8
          have z3 : 8 - (jj + 1) < 8 - jj := by omega
          have l1' : (jj : Int) < 8 := by omega
          have hmem : ma ≠ 0 ∨ mp ≠ 0 ∨ mx ≠ 0 ∨ mr ≠ 0 → (⟨ma, mp, mx, mr⟩ : Ln).nil = false ∧ (⟨ma, mp, mx, mr⟩ : Ln) ∈ F := fun hne => by
            have hn : (⟨ma, mp, mx, mr⟩ : Ln).nil = false := by
              simp only [Ln.nil, Bool.and_eq_false_iff, beq_eq_false_iff_ne]; exact hne
            exact ⟨hn, hcF _ (List.mem_of_getElem? hg8) hn⟩
          cases hF : F with
          | nil =>
            subst hF
            simp only [slL, lsL]
            refine run_sound (Tab.ok_Γ _) 600 _ _ _ _ ?_
            simp (config := { maxSteps := 10000000 }) only [EV1, EV2, EV3, EV4, EV5, EV6, addT, istep, lenR_sl, lenR_ns, lenR_es, pickR, putD, bin1R, un1R, slcR, bnd, capsOf, fillP, S_plain, V_plain, V.cells, S_known, V_known, C.v, blk, setL, setH, eqS, eq1, cmpS, cmp1, isNil, popTo, killT, setT, leT, V.below, C.below, S_below, R.below, V.val, C.val, S_val, R.val, R.takes, vals, shows, List.any_cons, List.any_nil, unnamed, V.kill, V.names, C.names, S_names, R.names, List.set, List.replicate, ↓q_cond_t, ↓q_cond_f, if_true, if_false, reduceCtorEq, rvals, rvC, result, C_known, V.noL, C.noL, S_noL, R.noL, Option.map, true_and, and_true, ge_iff_le, gt_iff_lt, implies_true, q_ite_t, q_ite_f, beq_iff_eq, bne_iff_ne, q_ne, Nat.reduceAdd, Nat.reducePow, Int.reducePow, Nat.reduceMul, Nat.reduceSub, Nat.reduceLeDiff, Nat.reduceLT, Nat.reduceEqDiff, Int.reduceNeg, Int.reduceLT, Int.reduceLE, Int.reduceEq, Int.reduceNe, Int.reduceAdd, Int.reduceSub, Int.reduceMul, Int.reduceToNat, Int.reduceBEq, Int.reduceBNe, T0, hse, l1', l2, l3, l4, hgl2, ownB, E8.1, hle8]
            refine ⟨fun hz => ?_, fun hz => ?_⟩
            · refine IH3 ⟨[], c8, jj + 1⟩ _ z3 ⟨h3, hcF, hFc, hFi⟩ (Wk.less ?_)
              simp (config := { maxSteps := 10000000 }) only [EV1, EV2, EV3, EV4, EV5, EV6, addT, istep, lenR_sl, lenR_ns, lenR_es, pickR, putD, bin1R, un1R, slcR, bnd, capsOf, fillP, S_plain, V_plain, V.cells, S_known, V_known, C.v, blk, setL, setH, eqS, eq1, cmpS, cmp1, isNil, popTo, killT, setT, leT, V.below, C.below, S_below, R.below, V.val, C.val, S_val, R.val, R.takes, vals, shows, List.any_cons, List.any_nil, unnamed, V.kill, V.names, C.names, S_names, R.names, List.set, List.replicate, ↓q_cond_t, ↓q_cond_f, if_true, if_false, reduceCtorEq, rvals, rvC, result, C_known, V.noL, C.noL, S_noL, R.noL, Option.map, true_and, and_true, ge_iff_le, gt_iff_lt, implies_true, q_ite_t, q_ite_f, beq_iff_eq, bne_iff_ne, q_ne, Nat.reduceAdd, Nat.reducePow, Int.reducePow, Nat.reduceMul, Nat.reduceSub, Nat.reduceLeDiff, Nat.reduceLT, Nat.reduceEqDiff, Int.reduceNeg, Int.reduceLT, Int.reduceLE, Int.reduceEq, Int.reduceNe, Int.reduceAdd, Int.reduceSub, Int.reduceMul, Int.reduceToNat, Int.reduceBEq, Int.reduceBNe, T0, hse, slL]
            · have := (hmem (by omega)).2
              cases this
          | cons y v =>
            subst hF
            have hvi : v.length + 1 ≤ i + 1 := hFi
            have k3' : (arr Ln.c (y :: v)).length = (v.length + 1) * 4 := arr_length Ln.c_len _
            simp only [slL, lsL]
            refine run_sound (Tab.ok_Γ _) 600 _ _ _ _ ?_
            simp (config := { maxSteps := 10000000 }) only [EV1, EV2, EV3, EV4, EV5, EV6, addT, istep, lenR_sl, lenR_ns, lenR_es, pickR, putD, bin1R, un1R, slcR, bnd, capsOf, fillP, S_plain, V_plain, V.cells, S_known, V_known, C.v, blk, setL, setH, eqS, eq1, cmpS, cmp1, isNil, popTo, killT, setT, leT, V.below, C.below, S_below, R.below, V.val, C.val, S_val, R.val, R.takes, vals, shows, List.any_cons, List.any_nil, unnamed, V.kill, V.names, C.names, S_names, R.names, List.set, List.replicate, ↓q_cond_t, ↓q_cond_f, if_true, if_false, reduceCtorEq, rvals, rvC, result, C_known, V.noL, C.noL, S_noL, R.noL, Option.map, true_and, and_true, ge_iff_le, gt_iff_lt, implies_true, q_ite_t, q_ite_f, beq_iff_eq, bne_iff_ne, q_ne, Nat.reduceAdd, Nat.reducePow, Int.reducePow, Nat.reduceMul, Nat.reduceSub, Nat.reduceLeDiff, Nat.reduceLT, Nat.reduceEqDiff, Int.reduceNeg, Int.reduceLT, Int.reduceLE, Int.reduceEq, Int.reduceNe, Int.reduceAdd, Int.reduceSub, Int.reduceMul, Int.reduceToNat, Int.reduceBEq, Int.reduceBNe, T0, hse, l1', l2, l3, l4, hgl2, ownB, E8.1, hle8]
            refine ⟨fun hz => ?_, fun hz => ?_⟩
            · refine IH3 ⟨y :: v, c8, jj + 1⟩ _ z3 ⟨h3, hcF, hFc, hFi⟩ (Wk.less ?_)
              simp (config := { maxSteps := 10000000 }) only [EV1, EV2, EV3, EV4, EV5, EV6, addT, istep, lenR_sl, lenR_ns, lenR_es, pickR, putD, bin1R, un1R, slcR, bnd, capsOf, fillP, S_plain, V_plain, V.cells, S_known, V_known, C.v, blk, setL, setH, eqS, eq1, cmpS, cmp1, isNil, popTo, killT, setT, leT, V.below, C.below, S_below, R.below, V.val, C.val, S_val, R.val, R.takes, vals, shows, List.any_cons, List.any_nil, unnamed, V.kill, V.names, C.names, S_names, R.names, List.set, List.replicate, ↓q_cond_t, ↓q_cond_f, if_true, if_false, reduceCtorEq, rvals, rvC, result, C_known, V.noL, C.noL, S_noL, R.noL, Option.map, true_and, and_true, ge_iff_le, gt_iff_lt, implies_true, q_ite_t, q_ite_f, beq_iff_eq, bne_iff_ne, q_ne, Nat.reduceAdd, Nat.reducePow, Int.reducePow, Nat.reduceMul, Nat.reduceSub, Nat.reduceLeDiff, Nat.reduceLT, Nat.reduceEqDiff, Int.reduceNeg, Int.reduceLT, Int.reduceLE, Int.reduceEq, Int.reduceNe, Int.reduceAdd, Int.reduceSub, Int.reduceMul, Int.reduceToNat, Int.reduceBEq, Int.reduceBNe, T0, hse, slL]
            obtain ⟨hnn, hin⟩ := hmem (by omega)
            refine loop_join (α := Nat × Bool) (fun y' => setT [(0, .s s0), (3, .s (.b true)), (4, .s (.p (.g h.length) 0)), (5, .s (.sl (.l 1) 0 (v.length + 1) c8)), (6, .s (.i .i64 i)), (13, .s (.sl (.g gl) 0 8 8)), (14, .s (.i .i64 jj)), (15, .s (.b y'.2)), (16, .s (.i .i64 y'.1))] T0)
              (fun _ => [⟨.rw, [.i .i64 w, .i .i64 a, .i .i64 p, .i .i64 x, .i .i64 r, .i .i64 at_], 6⟩, ⟨.rw, arr Ln.c (y :: v), c8 * 4⟩]) (fun y => HH h M J')
              (fun y' => y'.1 ≤ v.length + 1 ∧ ((⟨ma, mp, mx, mr⟩ : Ln) ∈ (y :: v).take y'.1 → y'.2 = true)) (fun y' => v.length + 1 - y'.1)
              (fun main => main _ _ _ (0, false) ⟨Nat.zero_le _, fun h => by simp at h⟩ ?_) ?_
            · refine Wk.less ?_
              simp (config := { maxSteps := 10000000 }) only [EV1, EV2, EV3, EV4, EV5, EV6, addT, istep, lenR_sl, lenR_ns, lenR_es, pickR, putD, bin1R, un1R, slcR, bnd, capsOf, fillP, S_plain, V_plain, V.cells, S_known, V_known, C.v, blk, setL, setH, eqS, eq1, cmpS, cmp1, isNil, popTo, killT, setT, leT, V.below, C.below, S_below, R.below, V.val, C.val, S_val, R.val, R.takes, vals, shows, List.any_cons, List.any_nil, unnamed, V.kill, V.names, C.names, S_names, R.names, List.set, List.replicate, ↓q_cond_t, ↓q_cond_f, if_true, if_false, reduceCtorEq, rvals, rvC, result, C_known, V.noL, C.noL, S_noL, R.noL, Option.map, true_and, and_true, ge_iff_le, gt_iff_lt, implies_true, q_ite_t, q_ite_f, beq_iff_eq, bne_iff_ne, q_ne, Nat.reduceAdd, Nat.reducePow, Int.reducePow, Nat.reduceMul, Nat.reduceSub, Nat.reduceLeDiff, Nat.reduceLT, Nat.reduceEqDiff, Int.reduceNeg, Int.reduceLT, Int.reduceLE, Int.reduceEq, Int.reduceNe, Int.reduceAdd, Int.reduceSub, Int.reduceMul, Int.reduceToNat, Int.reduceBEq, Int.reduceBNe, T0, hse, q_cast, Int.natCast_zero]
            rintro W ⟨f, b⟩ ⟨hf, hb⟩ IH4
            simp only at hf hb IH4 ⊢
            rcases Nat.lt_or_ge f (v.length + 1) with h4 | h4
            · obtain ⟨m1, m2, m3, m4⟩ := idx h4 (by omega)
              have E9 := Ln.at_ (L := y :: v) (i := f) h4
              have hle9 : f * 4 + 4 ≤ (arr Ln.c (y :: v)).length := E9.2.2.2.2.2.1
              have htk : (y :: v).take (f + 1) = (y :: v).take f ++ [nth Ln.z (y :: v) f] := by
                rw [List.take_succ_eq_append_getElem h4, nth_eq h4]
              obtain ⟨⟨na, np, nx, nr⟩, hn⟩ : ∃ x, nth Ln.z (y :: v) f = x := ⟨_, rfl⟩
              rw [hn] at E9 htk
              simp only at E9
              have z4 : v.length + 1 - (f + 1) < v.length + 1 - f := by omega
              refine run_sound (Tab.ok_Γ _) 600 _ _ _ _ ?_
              simp (config := { maxSteps := 10000000 }) only [EV1, EV2, EV3, EV4, EV5, EV6, addT, istep, lenR_sl, lenR_ns, lenR_es, pickR, putD, bin1R, un1R, slcR, bnd, capsOf, fillP, S_plain, V_plain, V.cells, S_known, V_known, C.v, blk, setL, setH, eqS, eq1, cmpS, cmp1, isNil, popTo, killT, setT, leT, V.below, C.below, S_below, R.below, V.val, C.val, S_val, R.val, R.takes, vals, shows, List.any_cons, List.any_nil, unnamed, V.kill, V.names, C.names, S_names, R.names, List.set, List.replicate, ↓q_cond_t, ↓q_cond_f, if_true, if_false, reduceCtorEq, rvals, rvC, result, C_known, V.noL, C.noL, S_noL, R.noL, Option.map, true_and, and_true, ge_iff_le, gt_iff_lt, implies_true, q_ite_t, q_ite_f, beq_iff_eq, bne_iff_ne, q_ne, Nat.reduceAdd, Nat.reducePow, Int.reducePow, Nat.reduceMul, Nat.reduceSub, Nat.reduceLeDiff, Nat.reduceLT, Nat.reduceEqDiff, Int.reduceNeg, Int.reduceLT, Int.reduceLE, Int.reduceEq, Int.reduceNe, Int.reduceAdd, Int.reduceSub, Int.reduceMul, Int.reduceToNat, Int.reduceBEq, Int.reduceBNe, T0, hse, m1, m2, m3, m4, l1', l2, l3, l4, hgl2, ownB, E8.1, hle8, E9.1, hle9]
              obtain ⟨b', hb'⟩ : ∃ b', (b || (na == ma && (np == mp && (nx == mx && nr == mr)))) = b' := ⟨_, rfl⟩
              rw [hb']
              refine IH4 (f + 1, b') _ z4 ⟨h4, fun hin2 => ?_⟩ (Wk.less ?_)
              · simp only at hin2 ⊢
                rw [htk, List.mem_append] at hin2
                rw [← hb']
                rcases hin2 with h6 | h6
                · rw [hb h6]; rfl
                · simp only [List.mem_singleton, Ln.mk.injEq] at h6
                  simp [h6]
              · simp (config := { maxSteps := 10000000 }) only [EV1, EV2, EV3, EV4, EV5, EV6, addT, istep, lenR_sl, lenR_ns, lenR_es, pickR, putD, bin1R, un1R, slcR, bnd, capsOf, fillP, S_plain, V_plain, V.cells, S_known, V_known, C.v, blk, setL, setH, eqS, eq1, cmpS, cmp1, isNil, popTo, killT, setT, leT, V.below, C.below, S_below, R.below, V.val, C.val, S_val, R.val, R.takes, vals, shows, List.any_cons, List.any_nil, unnamed, V.kill, V.names, C.names, S_names, R.names, List.set, List.replicate, ↓q_cond_t, ↓q_cond_f, if_true, if_false, reduceCtorEq, rvals, rvC, result, C_known, V.noL, C.noL, S_noL, R.noL, Option.map, true_and, and_true, ge_iff_le, gt_iff_lt, implies_true, q_ite_t, q_ite_f, beq_iff_eq, bne_iff_ne, q_ne, Nat.reduceAdd, Nat.reducePow, Int.reducePow, Nat.reduceMul, Nat.reduceSub, Nat.reduceLeDiff, Nat.reduceLT, Nat.reduceEqDiff, Int.reduceNeg, Int.reduceLT, Int.reduceLE, Int.reduceEq, Int.reduceNe, Int.reduceAdd, Int.reduceSub, Int.reduceMul, Int.reduceToNat, Int.reduceBEq, Int.reduceBNe, T0, hse]
            · have e6 : f = v.length + 1 := by omega
              subst e6
              have hbt : b = true := hb (by rw [show v.length + 1 = (y :: v).length from rfl, List.take_length]; exact hin)
              subst hbt
              refine run_sound (Tab.ok_Γ _) 600 _ _ _ _ ?_
              simp (config := { maxSteps := 10000000 }) only [EV1, EV2, EV3, EV4, EV5, EV6, addT, istep, lenR_sl, lenR_ns, lenR_es, pickR, putD, bin1R, un1R, slcR, bnd, capsOf, fillP, S_plain, V_plain, V.cells, S_known, V_known, C.v, blk, setL, setH, eqS, eq1, cmpS, cmp1, isNil, popTo, killT, setT, leT, V.below, C.below, S_below, R.below, V.val, C.val, S_val, R.val, R.takes, vals, shows, List.any_cons, List.any_nil, unnamed, V.kill, V.names, C.names, S_names, R.names, List.set, List.replicate, ↓q_cond_t, ↓q_cond_f, if_true, if_false, reduceCtorEq, rvals, rvC, result, C_known, V.noL, C.noL, S_noL, R.noL, Option.map, true_and, and_true, ge_iff_le, gt_iff_lt, implies_true, q_ite_t, q_ite_f, beq_iff_eq, bne_iff_ne, q_ne, Nat.reduceAdd, Nat.reducePow, Int.reducePow, Nat.reduceMul, Nat.reduceSub, Nat.reduceLeDiff, Nat.reduceLT, Nat.reduceEqDiff, Int.reduceNeg, Int.reduceLT, Int.reduceLE, Int.reduceEq, Int.reduceNe, Int.reduceAdd, Int.reduceSub, Int.reduceMul, Int.reduceToNat, Int.reduceBEq, Int.reduceBNe, T0, hse, Int.lt_irrefl]
              refine loop_join (α := Nat) (fun u => setT [(0, .s s0), (3, .s (.b true)), (4, .s (.p (.g h.length) 0)), (5, .s (.sl (.l 1) 0 (v.length + 1) c8)), (6, .s (.i .i64 i)), (13, .s (.sl (.g gl) 0 8 8)), (14, .s (.i .i64 jj)), (15, .s (.b true)), (17, .s (.i .i64 u))] T0)
                (fun _ => [⟨.rw, [.i .i64 w, .i .i64 a, .i .i64 p, .i .i64 x, .i .i64 r, .i .i64 at_], 6⟩, ⟨.rw, arr Ln.c (y :: v), c8 * 4⟩]) (fun y => HH h M J')
                (fun u => u ≤ jj) (fun u => jj - u)
                (fun main => main _ _ _ 0 (Nat.zero_le _) ?_) ?_
              · refine Wk.less ?_
                simp (config := { maxSteps := 10000000 }) only [EV1, EV2, EV3, EV4, EV5, EV6, addT, istep, lenR_sl, lenR_ns, lenR_es, pickR, putD, bin1R, un1R, slcR, bnd, capsOf, fillP, S_plain, V_plain, V.cells, S_known, V_known, C.v, blk, setL, setH, eqS, eq1, cmpS, cmp1, isNil, popTo, killT, setT, leT, V.below, C.below, S_below, R.below, V.val, C.val, S_val, R.val, R.takes, vals, shows, List.any_cons, List.any_nil, unnamed, V.kill, V.names, C.names, S_names, R.names, List.set, List.replicate, ↓q_cond_t, ↓q_cond_f, if_true, if_false, reduceCtorEq, rvals, rvC, result, C_known, V.noL, C.noL, S_noL, R.noL, Option.map, true_and, and_true, ge_iff_le, gt_iff_lt, implies_true, q_ite_t, q_ite_f, beq_iff_eq, bne_iff_ne, q_ne, Nat.reduceAdd, Nat.reducePow, Int.reducePow, Nat.reduceMul, Nat.reduceSub, Nat.reduceLeDiff, Nat.reduceLT, Nat.reduceEqDiff, Int.reduceNeg, Int.reduceLT, Int.reduceLE, Int.reduceEq, Int.reduceNe, Int.reduceAdd, Int.reduceSub, Int.reduceMul, Int.reduceToNat, Int.reduceBEq, Int.reduceBNe, T0, hse, q_cast, Int.natCast_zero]
              rintro X5 ui hu IH5
              rcases Nat.lt_or_ge ui jj with h5 | h5
              · obtain ⟨m1, m2, m3, m4⟩ := idx h5 (by omega)
                have m5 : (ui : Int) < 8 := by omega
                have E9 := Ln.at_ (L := M) (i := ui) (by omega)
                have hg9 : M[ui]? = some (nth Ln.z M ui) := nth_get (by omega)
                obtain ⟨⟨na, np, nx, nr⟩, hn⟩ : ∃ x, nth Ln.z M ui = x := ⟨_, rfl⟩
                rw [hn] at E9 hg9
                simp only at E9
                have z5 : jj - (ui + 1) < jj - ui := by omega
                refine run_sound (Tab.ok_Γ _) 600 _ _ _ _ ?_
                simp (config := { maxSteps := 10000000 }) only [EV1, EV2, EV3, EV4, EV5, EV6, addT, istep, lenR_sl, lenR_ns, lenR_es, pickR, putD, bin1R, un1R, slcR, bnd, capsOf, fillP, S_plain, V_plain, V.cells, S_known, V_known, C.v, blk, setL, setH, eqS, eq1, cmpS, cmp1, isNil, popTo, killT, setT, leT, V.below, C.below, S_below, R.below, V.val, C.val, S_val, R.val, R.takes, vals, shows, List.any_cons, List.any_nil, unnamed, V.kill, V.names, C.names, S_names, R.names, List.set, List.replicate, ↓q_cond_t, ↓q_cond_f, if_true, if_false, reduceCtorEq, rvals, rvC, result, C_known, V.noL, C.noL, S_noL, R.noL, Option.map, true_and, and_true, ge_iff_le, gt_iff_lt, implies_true, q_ite_t, q_ite_f, beq_iff_eq, bne_iff_ne, q_ne, Nat.reduceAdd, Nat.reducePow, Int.reducePow, Nat.reduceMul, Nat.reduceSub, Nat.reduceLeDiff, Nat.reduceLT, Nat.reduceEqDiff, Int.reduceNeg, Int.reduceLT, Int.reduceLE, Int.reduceEq, Int.reduceNe, Int.reduceAdd, Int.reduceSub, Int.reduceMul, Int.reduceToNat, Int.reduceBEq, Int.reduceBNe, T0, hse, m1, m2, m3, m4, m5, l1', l2, l3, l4, hgl2, ownB, E8.2, E9.2]
                have hun : (na != ma || np != mp) = true := by
                  by_cases hz : (⟨na, np, nx, nr⟩ : Ln).nil = true
                  · have hz := nil_iff.1 hz
                    simp only [Ln.z, Ln.mk.injEq] at hz
                    rcases gM.ok _ (List.mem_of_getElem? hg8) with e | e
                    · rw [nil_iff.2 e] at hnn; cases hnn
                    · have e : ma ≠ 0 := e
                      simp [hz.1, Ne.symm e]
                  · have := okT_at gM (i := ui) (j := jj) (by omega) hg9 hg8 (by simpa using hz) hnn
                    simp only [Bool.and_eq_false_iff, beq_eq_false_iff_ne] at this
                    simpa using this
                rw [hun]
                exact IH5 (ui + 1) _ z5 h5 (Wk.less (by simp (config := { maxSteps := 10000000 }) only [EV1, EV2, EV3, EV4, EV5, EV6, addT, istep, lenR_sl, lenR_ns, lenR_es, pickR, putD, bin1R, un1R, slcR, bnd, capsOf, fillP, S_plain, V_plain, V.cells, S_known, V_known, C.v, blk, setL, setH, eqS, eq1, cmpS, cmp1, isNil, popTo, killT, setT, leT, V.below, C.below, S_below, R.below, V.val, C.val, S_val, R.val, R.takes, vals, shows, List.any_cons, List.any_nil, unnamed, V.kill, V.names, C.names, S_names, R.names, List.set, List.replicate, ↓q_cond_t, ↓q_cond_f, if_true, if_false, reduceCtorEq, rvals, rvC, result, C_known, V.noL, C.noL, S_noL, R.noL, Option.map, true_and, and_true, ge_iff_le, gt_iff_lt, implies_true, q_ite_t, q_ite_f, beq_iff_eq, bne_iff_ne, q_ne, Nat.reduceAdd, Nat.reducePow, Int.reducePow, Nat.reduceMul, Nat.reduceSub, Nat.reduceLeDiff, Nat.reduceLT, Nat.reduceEqDiff, Int.reduceNeg, Int.reduceLT, Int.reduceLE, Int.reduceEq, Int.reduceNe, Int.reduceAdd, Int.reduceSub, Int.reduceMul, Int.reduceToNat, Int.reduceBEq, Int.reduceBNe, T0, hse]))
              · have e7 : ui = jj := by omega
                subst e7
                refine run_sound (Tab.ok_Γ _) 600 _ _ _ _ ?_
                simp (config := { maxSteps := 10000000 }) only [EV1, EV2, EV3, EV4, EV5, EV6, addT, istep, lenR_sl, lenR_ns, lenR_es, pickR, putD, bin1R, un1R, slcR, bnd, capsOf, fillP, S_plain, V_plain, V.cells, S_known, V_known, C.v, blk, setL, setH, eqS, eq1, cmpS, cmp1, isNil, popTo, killT, setT, leT, V.below, C.below, S_below, R.below, V.val, C.val, S_val, R.val, R.takes, vals, shows, List.any_cons, List.any_nil, unnamed, V.kill, V.names, C.names, S_names, R.names, List.set, List.replicate, ↓q_cond_t, ↓q_cond_f, if_true, if_false, reduceCtorEq, rvals, rvC, result, C_known, V.noL, C.noL, S_noL, R.noL, Option.map, true_and, and_true, ge_iff_le, gt_iff_lt, implies_true, q_ite_t, q_ite_f, beq_iff_eq, bne_iff_ne, q_ne, Nat.reduceAdd, Nat.reducePow, Int.reducePow, Nat.reduceMul, Nat.reduceSub, Nat.reduceLeDiff, Nat.reduceLT, Nat.reduceEqDiff, Int.reduceNeg, Int.reduceLT, Int.reduceLE, Int.reduceEq, Int.reduceNe, Int.reduceAdd, Int.reduceSub, Int.reduceMul, Int.reduceToNat, Int.reduceBEq, Int.reduceBNe, T0, hse, Int.lt_irrefl, l4]
                refine IH3 ⟨y :: v, c8, ui + 1⟩ _ z3 ⟨h3, hcF, hFc, hFi⟩ (Wk.less ?_)
                simp (config := { maxSteps := 10000000 }) only [EV1, EV2, EV3, EV4, EV5, EV6, addT, istep, lenR_sl, lenR_ns, lenR_es, pickR, putD, bin1R, un1R, slcR, bnd, capsOf, fillP, S_plain, V_plain, V.cells, S_known, V_known, C.v, blk, setL, setH, eqS, eq1, cmpS, cmp1, isNil, popTo, killT, setT, leT, V.below, C.below, S_below, R.below, V.val, C.val, S_val, R.val, R.takes, vals, shows, List.any_cons, List.any_nil, unnamed, V.kill, V.names, C.names, S_names, R.names, List.set, List.replicate, ↓q_cond_t, ↓q_cond_f, if_true, if_false, reduceCtorEq, rvals, rvC, result, C_known, V.noL, C.noL, S_noL, R.noL, Option.map, true_and, and_true, ge_iff_le, gt_iff_lt, implies_true, q_ite_t, q_ite_f, beq_iff_eq, bne_iff_ne, q_ne, Nat.reduceAdd, Nat.reducePow, Int.reducePow, Nat.reduceMul, Nat.reduceSub, Nat.reduceLeDiff, Nat.reduceLT, Nat.reduceEqDiff, Int.reduceNeg, Int.reduceLT, Int.reduceLE, Int.reduceEq, Int.reduceNe, Int.reduceAdd, Int.reduceSub, Int.reduceMul, Int.reduceToNat, Int.reduceBEq, Int.reduceBNe, T0, hse, slL]
        · have e8 : jj = 8 := by omega
          subst e8
          refine run_sound (Tab.ok_Γ _) 600 _ _ _ _ ?_
          simp (config := { maxSteps := 10000000 }) only [EV1, EV2, EV3, EV4, EV5, EV6, addT, istep, lenR_sl, lenR_ns, lenR_es, pickR, putD, bin1R, un1R, slcR, bnd, capsOf, fillP, S_plain, V_plain, V.cells, S_known, V_known, C.v, blk, setL, setH, eqS, eq1, cmpS, cmp1, isNil, popTo, killT, setT, leT, V.below, C.below, S_below, R.below, V.val, C.val, S_val, R.val, R.takes, vals, shows, List.any_cons, List.any_nil, unnamed, V.kill, V.names, C.names, S_names, R.names, List.set, List.replicate, ↓q_cond_t, ↓q_cond_f, if_true, if_false, reduceCtorEq, rvals, rvC, result, C_known, V.noL, C.noL, S_noL, R.noL, Option.map, true_and, and_true, ge_iff_le, gt_iff_lt, implies_true, q_ite_t, q_ite_f, beq_iff_eq, bne_iff_ne, q_ne, Nat.reduceAdd, Nat.reducePow, Int.reducePow, Nat.reduceMul, Nat.reduceSub, Nat.reduceLeDiff, Nat.reduceLT, Nat.reduceEqDiff, Int.reduceNeg, Int.reduceLT, Int.reduceLE, Int.reduceEq, Int.reduceNe, Int.reduceAdd, Int.reduceSub, Int.reduceMul, Int.reduceToNat, Int.reduceBEq, Int.reduceBNe, T0, hse, Int.lt_irrefl, d4]
          have z1 : Ls.length - (i + 1) < Ls.length - i := by omega
          cases hF : F with
          | nil =>
            subst hF
            refine IH ⟨i + 1, M, J', .ns, []⟩ _ z1 ⟨h1, gM, .inl ⟨rfl, rfl⟩, hFi, hcF⟩ ?_
            simp only [slL, lsL]
            refine Wk.sel [] (by decide) hnq ?_ ?_ ?_ ?_ hcq (clean_pick hcq _)
            · simp (config := { maxSteps := 10000000 }) only [EV1, EV2, EV3, EV4, EV5, EV6, addT, istep, lenR_sl, lenR_ns, lenR_es, pickR, putD, bin1R, un1R, slcR, bnd, capsOf, fillP, S_plain, V_plain, V.cells, S_known, V_known, C.v, blk, setL, setH, eqS, eq1, cmpS, cmp1, isNil, popTo, killT, setT, leT, V.below, C.below, S_below, R.below, V.val, C.val, S_val, R.val, R.takes, vals, shows, List.any_cons, List.any_nil, unnamed, V.kill, V.names, C.names, S_names, R.names, List.set, List.replicate, ↓q_cond_t, ↓q_cond_f, if_true, if_false, reduceCtorEq, rvals, rvC, result, C_known, V.noL, C.noL, S_noL, R.noL, Option.map, true_and, and_true, ge_iff_le, gt_iff_lt, implies_true, q_ite_t, q_ite_f, beq_iff_eq, bne_iff_ne, q_ne, Nat.reduceAdd, Nat.reducePow, Int.reducePow, Nat.reduceMul, Nat.reduceSub, Nat.reduceLeDiff, Nat.reduceLT, Nat.reduceEqDiff, Int.reduceNeg, Int.reduceLT, Int.reduceLE, Int.reduceEq, Int.reduceNe, Int.reduceAdd, Int.reduceSub, Int.reduceMul, Int.reduceToNat, Int.reduceBEq, Int.reduceBNe, List.nil_append, Blk.ren, V.ren, C.ren, S_ren, wc_ren, R.pick_g, R.pick_0, R.pick_s, List.map_append, wc_cons, wc_snoc, wc_nil, T0, hse, hjl2, hpt]
            · simp (config := { maxSteps := 10000000 }) only [EV1, EV2, EV3, EV4, EV5, EV6, addT, istep, lenR_sl, lenR_ns, lenR_es, pickR, putD, bin1R, un1R, slcR, bnd, capsOf, fillP, S_plain, V_plain, V.cells, S_known, V_known, C.v, blk, setL, setH, eqS, eq1, cmpS, cmp1, isNil, popTo, killT, setT, leT, V.below, C.below, S_below, R.below, V.val, C.val, S_val, R.val, R.takes, vals, shows, List.any_cons, List.any_nil, unnamed, V.kill, V.names, C.names, S_names, R.names, List.set, List.replicate, ↓q_cond_t, ↓q_cond_f, if_true, if_false, reduceCtorEq, rvals, rvC, result, C_known, V.noL, C.noL, S_noL, R.noL, Option.map, true_and, and_true, ge_iff_le, gt_iff_lt, implies_true, q_ite_t, q_ite_f, beq_iff_eq, bne_iff_ne, q_ne, Nat.reduceAdd, Nat.reducePow, Int.reducePow, Nat.reduceMul, Nat.reduceSub, Nat.reduceLeDiff, Nat.reduceLT, Nat.reduceEqDiff, Int.reduceNeg, Int.reduceLT, Int.reduceLE, Int.reduceEq, Int.reduceNe, Int.reduceAdd, Int.reduceSub, Int.reduceMul, Int.reduceToNat, Int.reduceBEq, Int.reduceBNe, List.nil_append, Blk.ren, V.ren, C.ren, S_ren, wc_ren, R.pick_g, R.pick_0, R.pick_s, T0, hse, hjl2, hpt]
            · simp (config := { maxSteps := 10000000 }) only [EV1, EV2, EV3, EV4, EV5, EV6, addT, istep, lenR_sl, lenR_ns, lenR_es, pickR, putD, bin1R, un1R, slcR, bnd, capsOf, fillP, S_plain, V_plain, V.cells, S_known, V_known, C.v, blk, setL, setH, eqS, eq1, cmpS, cmp1, isNil, popTo, killT, setT, leT, V.below, C.below, S_below, R.below, V.val, C.val, S_val, R.val, R.takes, vals, shows, List.any_cons, List.any_nil, unnamed, V.kill, V.names, C.names, S_names, R.names, List.set, List.replicate, ↓q_cond_t, ↓q_cond_f, if_true, if_false, reduceCtorEq, rvals, rvC, result, C_known, V.noL, C.noL, S_noL, R.noL, Option.map, true_and, and_true, ge_iff_le, gt_iff_lt, implies_true, q_ite_t, q_ite_f, beq_iff_eq, bne_iff_ne, q_ne, Nat.reduceAdd, Nat.reducePow, Int.reducePow, Nat.reduceMul, Nat.reduceSub, Nat.reduceLeDiff, Nat.reduceLT, Nat.reduceEqDiff, Int.reduceNeg, Int.reduceLT, Int.reduceLE, Int.reduceEq, Int.reduceNe, Int.reduceAdd, Int.reduceSub, Int.reduceMul, Int.reduceToNat, Int.reduceBEq, Int.reduceBNe, List.nil_append, app_len, nlt0, nltn, Nat.reduceLT, Nat.le_add_right, T0, hse, hjl2, hpt]
            · simp (config := { maxSteps := 10000000 }) only [EV1, EV2, EV3, EV4, EV5, EV6, addT, istep, lenR_sl, lenR_ns, lenR_es, pickR, putD, bin1R, un1R, slcR, bnd, capsOf, fillP, S_plain, V_plain, V.cells, S_known, V_known, C.v, blk, setL, setH, eqS, eq1, cmpS, cmp1, isNil, popTo, killT, setT, leT, V.below, C.below, S_below, R.below, V.val, C.val, S_val, R.val, R.takes, vals, shows, List.any_cons, List.any_nil, unnamed, V.kill, V.names, C.names, S_names, R.names, List.set, List.replicate, ↓q_cond_t, ↓q_cond_f, if_true, if_false, reduceCtorEq, rvals, rvC, result, C_known, V.noL, C.noL, S_noL, R.noL, Option.map, true_and, and_true, ge_iff_le, gt_iff_lt, implies_true, q_ite_t, q_ite_f, beq_iff_eq, bne_iff_ne, q_ne, Nat.reduceAdd, Nat.reducePow, Int.reducePow, Nat.reduceMul, Nat.reduceSub, Nat.reduceLeDiff, Nat.reduceLT, Nat.reduceEqDiff, Int.reduceNeg, Int.reduceLT, Int.reduceLE, Int.reduceEq, Int.reduceNe, Int.reduceAdd, Int.reduceSub, Int.reduceMul, Int.reduceToNat, Int.reduceBEq, Int.reduceBNe, List.nil_append, app_len, nlt0, nltn, Nat.reduceLT, Nat.le_add_right, vals_cons, vals_nil, wc_val, wc_vals, T0, hse, hjl2, hpt]
          | cons y v =>
            subst hF
            obtain ⟨gk, hgk⟩ : ∃ gk, (HH h M J').length = gk := ⟨_, rfl⟩
            rw [hgk] at hpt hjl2
            have hn1 : ¬ h.length = gk := by omega
            have hn2 : ¬ j = gk := by omega
            have hn3 : h.length < gk + 1 := by omega
            have hn4 : j < gk + 1 := by omega
            refine IH ⟨i + 1, M, J' ++ [(y :: v, c8 * 4)], .sl (.g gk) 0 (v.length + 1) c8, y :: v⟩ _ z1 ⟨h1, gM, .inr ⟨J'.length, c8, c8 * 4, by rw [← hgk, HH_len]; rfl, by simp⟩, hFi, hcF⟩ ?_
            simp only [slL, lsL]
            rw [← HH_snoc]
            refine Wk.lift 1 hnq rfl rfl (hva _ _ _) ?_ ?_ hcq
            · rw [hgk]
              simp (config := { maxSteps := 10000000 }) only [EV1, EV2, EV3, EV4, EV5, EV6, addT, istep, lenR_sl, lenR_ns, lenR_es, pickR, putD, bin1R, un1R, slcR, bnd, capsOf, fillP, S_plain, V_plain, V.cells, S_known, V_known, C.v, blk, setL, setH, eqS, eq1, cmpS, cmp1, isNil, popTo, killT, setT, leT, V.below, C.below, S_below, R.below, V.val, C.val, S_val, R.val, R.takes, vals, shows, List.any_cons, List.any_nil, unnamed, V.kill, V.names, C.names, S_names, R.names, List.set, List.replicate, ↓q_cond_t, ↓q_cond_f, if_true, if_false, reduceCtorEq, rvals, rvC, result, C_known, V.noL, C.noL, S_noL, R.noL, Option.map, true_and, and_true, ge_iff_le, gt_iff_lt, implies_true, q_ite_t, q_ite_f, beq_iff_eq, bne_iff_ne, q_ne, Nat.reduceAdd, Nat.reducePow, Int.reducePow, Nat.reduceMul, Nat.reduceSub, Nat.reduceLeDiff, Nat.reduceLT, Nat.reduceEqDiff, Int.reduceNeg, Int.reduceLT, Int.reduceLE, Int.reduceEq, Int.reduceNe, Int.reduceAdd, Int.reduceSub, Int.reduceMul, Int.reduceToNat, Int.reduceBEq, Int.reduceBNe, T0, hse, V.ren, C.ren, S_ren, R.g.injEq, hn1, hn2]
            · rw [hgk]
              simp (config := { maxSteps := 10000000 }) only [EV1, EV2, EV3, EV4, EV5, EV6, addT, istep, lenR_sl, lenR_ns, lenR_es, pickR, putD, bin1R, un1R, slcR, bnd, capsOf, fillP, S_plain, V_plain, V.cells, S_known, V_known, C.v, blk, setL, setH, eqS, eq1, cmpS, cmp1, isNil, popTo, killT, setT, leT, V.below, C.below, S_below, R.below, V.val, C.val, S_val, R.val, R.takes, vals, shows, List.any_cons, List.any_nil, unnamed, V.kill, V.names, C.names, S_names, R.names, List.set, List.replicate, ↓q_cond_t, ↓q_cond_f, if_true, if_false, reduceCtorEq, rvals, rvC, result, C_known, V.noL, C.noL, S_noL, R.noL, Option.map, true_and, and_true, ge_iff_le, gt_iff_lt, implies_true, q_ite_t, q_ite_f, beq_iff_eq, bne_iff_ne, q_ne, Nat.reduceAdd, Nat.reducePow, Int.reducePow, Nat.reduceMul, Nat.reduceSub, Nat.reduceLeDiff, Nat.reduceLT, Nat.reduceEqDiff, Int.reduceNeg, Int.reduceLT, Int.reduceLE, Int.reduceEq, Int.reduceNe, Int.reduceAdd, Int.reduceSub, Int.reduceMul, Int.reduceToNat, Int.reduceBEq, Int.reduceBNe, T0, hse, hn3, hn4, Nat.lt_succ_self]
    · have e9 : i = Ls.length := by omega
      subst e9
      refine run_sound (Tab.ok_Γ _) 600 _ _ _ _ ?_
      simp (config := { maxSteps := 10000000 }) only [EV1, EV2, EV3, EV4, EV5, EV6, addT, istep, lenR_sl, lenR_ns, lenR_es, pickR, putD, bin1R, un1R, slcR, bnd, capsOf, fillP, S_plain, V_plain, V.cells, S_known, V_known, C.v, blk, setL, setH, eqS, eq1, cmpS, cmp1, isNil, popTo, killT, setT, leT, V.below, C.below, S_below, R.below, V.val, C.val, S_val, R.val, R.takes, vals, shows, List.any_cons, List.any_nil, unnamed, V.kill, V.names, C.names, S_names, R.names, List.set, List.replicate, ↓q_cond_t, ↓q_cond_f, if_true, if_false, reduceCtorEq, rvals, rvC, result, C_known, V.noL, C.noL, S_noL, R.noL, Option.map, true_and, and_true, ge_iff_le, gt_iff_lt, implies_true, q_ite_t, q_ite_f, beq_iff_eq, bne_iff_ne, q_ne, Nat.reduceAdd, Nat.reducePow, Int.reducePow, Nat.reduceMul, Nat.reduceSub, Nat.reduceLeDiff, Nat.reduceLT, Nat.reduceEqDiff, Int.reduceNeg, Int.reduceLT, Int.reduceLE, Int.reduceEq, Int.reduceNe, Int.reduceAdd, Int.reduceSub, Int.reduceMul, Int.reduceToNat, Int.reduceBEq, Int.reduceBNe, T0, hlen, Int.lt_irrefl]
      exact hK _

end Tl
end Go.Proofs.Yteeeidldknlblaa

/- The facts of the rows of this seat. -/
namespace Go.Proofs.Yteeeidldknlblaa
open Go.D
set_option linter.all false
set_option maxRecDepth 100000

theorem own : ownKnob Try.prog.godebug = none := by kernel_rfl
theorem laid : laidOutB Try.prog = true := by kernel_rfl
theorem rowed : mapsRowed Try.prog = true := by kernel_rfl
theorem full : slicesFull Try.prog = true := by kernel_rfl

theorem hasTs_cons {h : List Blk} {t : TY} {ts : List TY} {ss : List S} (H : hasTs h (t :: ts) ss) : ∃ s ss', ss = s :: ss' ∧ hasT h t s ∧ hasTs h ts ss' := by
  cases ss with
  | nil => exact H.elim
  | cons s ss => exact ⟨s, ss, rfl, H.1, H.2⟩
theorem hasTs_nil {h : List Blk} {ss : List S} (H : hasTs h [] ss) : ss = [] := by
  cases ss with
  | nil => rfl
  | cons s ss => exact H.elim
theorem hasT_int {h : List Blk} {k : IntKind} {s : S} (H : hasT h (.int k) s) : ∃ n, s = .i k n ∧ (Lit.int k n).wf = true := H
theorem hasT_bool {h : List Blk} {s : S} (H : hasT h .bool s) : ∃ b, s = .b b := H
/-- The arguments, one by one. -/
theorem law1 {h : List Blk} {x : Bool × List TY} {us : List V} (H : hasVs h [x] us) : ∃ u, us = [u] ∧ hasV h x u := by
  match us, H with
  | [u], H => exact ⟨u, rfl, H.1⟩
  | [], H => exact H.elim
  | _ :: _ :: _, H => exact H.2.elim
theorem law2 {h : List Blk} {x y : Bool × List TY} {us : List V} (H : hasVs h [x, y] us) : ∃ u v, us = [u, v] ∧ hasV h x u ∧ hasV h y v := by
  match us, H with
  | [u, v], H => exact ⟨u, v, rfl, H.1, H.2.1⟩
  | [], H => exact H.elim
  | [_], H => exact H.2.elim
  | _ :: _ :: _ :: _, H => exact H.2.2.elim
theorem law3 {h : List Blk} {x y z : Bool × List TY} {us : List V} (H : hasVs h [x, y, z] us) : ∃ u v w, us = [u, v, w] ∧ hasV h x u ∧ hasV h y v ∧ hasV h z w := by
  match us, H with
  | [u, v, w], H => exact ⟨u, v, w, rfl, H.1, H.2.1, H.2.2.1⟩
  | [], H => exact H.elim
  | [_], H => exact H.2.elim
  | [_, _], H => exact H.2.2.elim
  | _ :: _ :: _ :: _ :: _, H => exact H.2.2.2.elim
theorem hasV_int {h : List Blk} {k : IntKind} {v : V} (H : hasV h (false, [.int k]) v) : ∃ n, v = .s (.i k n) ∧ (Lit.int k n).wf = true := by
  obtain ⟨s, rfl, ⟨n, rfl, hn⟩, _⟩ := H
  exact ⟨n, rfl, hn⟩

/-- A slice of elements that are read one by one. -/
theorem hasT_arr {α : Type} {c : α → List S} {h : List Blk} {e : List TY} (hd : ∀ ss, hasTs h e ss → ∃ x, ss = c x) : ∀ (E : List (List S)), (∀ x, x ∈ E → hasTs h e x) → ∃ L : List α, E.flatten = arr c L ∧ L.length = E.length
  | [], _ => ⟨[], rfl, rfl⟩
  | x :: E, H => by
    obtain ⟨y, rfl⟩ := hd x (H x List.mem_cons_self)
    obtain ⟨L, e1, e2⟩ := hasT_arr hd E (fun z hz => H z (List.mem_cons_of_mem _ hz))
    exact ⟨y :: L, by simp [arr, e1], by simp [e2]⟩
end Go.Proofs.Yteeeidldknlblaa

/- Slices as arguments of a statement. -/
namespace Go.Proofs.Yteeeidldknlblaa
open Go.D
set_option linter.all false
set_option maxRecDepth 100000

theorem hasT_arrP {α : Type} {c : α → List S} {p : α → Prop} {h : List Blk} {e : List TY} (hd : ∀ ss, hasTs h e ss → ∃ x, ss = c x ∧ p x) : ∀ (E : List (List S)), (∀ x, x ∈ E → hasTs h e x) → ∃ L : List α, E.flatten = arr c L ∧ L.length = E.length ∧ ∀ x, x ∈ L → p x
  | [], _ => ⟨[], rfl, rfl, fun x hx => by cases hx⟩
  | x :: E, H => by
    obtain ⟨y, rfl, hy⟩ := hd x (H x List.mem_cons_self)
    obtain ⟨L, e1, e2, e3⟩ := hasT_arrP hd E (fun z hz => H z (List.mem_cons_of_mem _ hz))
    refine ⟨y :: L, by simp [arr, e1], by simp [e2], fun z hz => ?_⟩
    rcases List.mem_cons.1 hz with rfl | hz
    · exact hy
    · exact e3 z hz
theorem isArr_of {α : Type} {c : α → List S} {p : α → Prop} {h : List Blk} {e : List TY} {s : S} (hd : ∀ ss, hasTs h e ss → ∃ x, ss = c x ∧ p x) (H : hasT h (.slice e) s) : ∃ L : List α, IsArr c h s L ∧ (∀ x, x ∈ L → p x) ∧ L.length ≤ 140737488355328 := by
  rcases H with rfl | ⟨a, c, rfl⟩ | ⟨j, n, cp, E, st, room, rfl, h1, h2, h3, h4, h5, h6, h7⟩
  · exact ⟨[], .inl ⟨.inl rfl, rfl⟩, (fun x hx => by cases hx), by simp⟩
  · exact ⟨[], .inl ⟨.inr ⟨a, c, rfl⟩, rfl⟩, (fun x hx => by cases hx), by simp⟩
  · obtain ⟨L, e1, e2, e3⟩ := hasT_arrP (c := c) (p := p) hd E h7
    have hn : L.length = n := by omega
    refine ⟨L, .inr ⟨j, cp, st, room, by rw [hn], by rw [← e1]; exact h3, fun h0 e => ?_⟩, e3, ?_⟩
    · have := h5 (by omega)
      rw [this] at e; cases e
    · omega
theorem hasV_slice {α : Type} {c : α → List S} {p : α → Prop} {h : List Blk} {e : List TY} {v : V} (hd : ∀ ss, hasTs h e ss → ∃ x, ss = c x ∧ p x) (H : hasV h (false, [.slice e]) v) : ∃ (s : S) (L : List α), v = .s s ∧ IsArr c h s L ∧ (∀ x, x ∈ L → p x) ∧ L.length ≤ 140737488355328 := by
  obtain ⟨s, rfl, H1, _⟩ := H
  obtain ⟨L, e1, e2, e3⟩ := isArr_of hd H1
  exact ⟨s, L, rfl, e1, e2, e3⟩
def Uw.c (n : Int) : List S := [.i .u64 n]
theorem arr_wc : ∀ L : List Int, arr Uw.c L = wc L
  | [] => rfl
  | x :: L => by simp only [arr, Uw.c, wc_cons, arr_wc L, List.cons_append, List.nil_append]
theorem u64_wf {n : Int} (h : (Lit.int .u64 n).wf = true) : u64 n := by
  have e : (decide ((0 : Int) ≤ n) && decide (n ≤ 18446744073709551615)) = true := h
  simp only [Bool.and_eq_true, decide_eq_true_eq] at e
  simp only [u64]; omega
/-- A slice of words. -/
theorem isList_of {h : List Blk} {s : S} (H : hasT h (.slice [.int .u64]) s) : ∃ L : List Int, IsList h s L ∧ (∀ x, x ∈ L → u64 x) ∧ L.length ≤ 140737488355328 := by
  obtain ⟨L, e1, e2, e3⟩ := isArr_of (c := Uw.c) (p := u64) (fun ss h => by
    obtain ⟨_, _, rfl, ⟨n, rfl, hn⟩, H2⟩ := hasTs_cons h
    obtain rfl := hasTs_nil H2
    exact ⟨n, rfl, u64_wf hn⟩) H
  refine ⟨L, ?_, e2, e3⟩
  rcases e1 with ⟨e0, rfl⟩ | ⟨j, c', st, room, rfl, e1, hd⟩
  · exact .inl ⟨e0, rfl⟩
  · rw [arr_wc] at e1
    rcases Nat.eq_zero_or_pos L.length with h0 | h0
    · exact .inr (.inl ⟨j, 0, c', _, by rw [h0], e1, List.eq_nil_of_length_eq_zero h0⟩)
    · refine .inr (.inr ⟨j, 0, c', _, rfl, e1, hd (by omega), ?_, ?_⟩)
      · simp only [wc_len]; omega
      · simp only; rw [wc_sub, List.drop_zero, List.take_length]
end Go.Proofs.Yteeeidldknlblaa

/- TlbHonest: for every input the law's Go function answers true, and its arguments read behind the call as before. No conditions. -/
namespace Go.Proofs.Yteeeidldknlblaa
open Go.D
set_option linter.all false
set_option maxRecDepth 100000

abbrev OpT4 : List TY := [.int .i64, .int .i64, .int .i64, .int .i64, .int .i64, .int .i64]
theorem hasTs_op4 {h : List Blk} {ss : List S} (H : hasTs h OpT4 ss) : ∃ o : Tl.Op, ss = o.c ∧ True := by
  obtain ⟨_, _, rfl, ⟨a, rfl, _⟩, H0⟩ := hasTs_cons H
  obtain ⟨_, _, rfl, ⟨b, rfl, _⟩, H1⟩ := hasTs_cons H0
  obtain ⟨_, _, rfl, ⟨c, rfl, _⟩, H2⟩ := hasTs_cons H1
  obtain ⟨_, _, rfl, ⟨d, rfl, _⟩, H3⟩ := hasTs_cons H2
  obtain ⟨_, _, rfl, ⟨e, rfl, _⟩, H4⟩ := hasTs_cons H3
  obtain ⟨_, _, rfl, ⟨f, rfl, _⟩, H5⟩ := hasTs_cons H4
  obtain rfl := hasTs_nil H5
  exact ⟨⟨a, b, c, d, e, f⟩, rfl, trivial⟩
theorem honest_law : Law Tl.honestS [(false, [.slice OpT4])] := by
  intro h us H hc
  obtain ⟨_, rfl, H2⟩ := law1 H
  obtain ⟨s, L, rfl, e1, _, _⟩ := hasV_slice (c := Tl.Op.c) (p := fun _ => True) (fun ss h => hasTs_op4 h) H2
  exact ⟨s, L, rfl, e1, fun _ => rfl⟩
theorem tlbHonest_row : RowOk Try.prog 3 Try.f3 Rows.tlbHonestSpec [(false, [.slice OpT4])] where
  own := own
  noInit := by kernel_rfl
  isf := Try.func3
  laid := laid
  rowed := rowed
  full := full
  params := by kernel_rfl
  vars := rfl
  ret := ⟨_, rfl, by kernel_rfl⟩
  spec := fun H ds e => by
    match ds, e with
    | [_], _ => rfl
  tys := ⟨20, by kernel_rfl⟩
theorem tlbHonest_holds : Rows.TlbHonestSaid :=
  OpenClaim.holds_of_wide 3 Try.f3 rfl rfl rfl rfl rfl rfl rfl ⟨rfl, rfl, rfl, rfl, rfl⟩ rfl rfl rfl rfl rfl (by kernel_rfl) Try.func3 (by kernel_rfl)
    (of_decide_eq_true (by kernel_rfl)) (by unfold Func.isWrapper; first | (rw [if_pos (by decide +kernel)]; kernel_rfl) | (rw [if_neg (by decide +kernel)]; exact ⟨rfl, rfl⟩))
    (fun os started H enc _ => tlbHonest_row.lifted (C := Try.checked) Tl.honest_snd honest_law started (ChangeSpec.witness6 (enc := enc) (C := Try.checked) false ⟨#[], #[.slice none 0 0], []⟩ 8 (by kernel_rfl) (by kernel_rfl) (by kernel_rfl) (by kernel_rfl)))
end Go.Proofs.Yteeeidldknlblaa

