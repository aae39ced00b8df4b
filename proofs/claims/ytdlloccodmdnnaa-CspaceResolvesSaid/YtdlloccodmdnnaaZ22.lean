/- Cspace: plain facts: what an address means. -/
import Derived.Test.YtdlloccodmdnnaaZ10
import Derived.Test.YtdlloccodmdnnaaZ21
import Derived.Test.YtdlloccodmdnnaaZ20
/- Lists of words: the document's Load, Same. -/
namespace Go.Proofs.Ytdlloccodmdnnaa
open Go.D
set_option linter.all false
set_option maxRecDepth 100000
set_option maxHeartbeats 4000000

theorem take_snoc {vs : List Int} {q : Nat} (h : q < vs.length) : vs.take (q + 1) = vs.take q ++ [nth 0 vs q] := by
  rw [List.take_succ_eq_append_getElem h, nth_eq h]
theorem rload_snd : Snd Try.prog 68 (FSpec.of loadG) := snd_run TSp_snd mixed Try.func68 dc68 100 fun args h K hc hS => by
  obtain ⟨a, x, s, b, m, vs, rfl, H, HL, hap, hu, q1, q2⟩ := loadG_spec hS
  clear hS
  have hl := m.l
  have hlen := fun ls h' => HL.sl.len (ls := ls) (h := h')
  cases hh : m.has x vs.length with
  | true =>
    have hS := q1 hh
    obtain ⟨i, n, rfl, e, hij⟩ := M.has_nat hh
    have e : vs.length = n := by omega
    simp only [Int.toNat_natCast] at hS
    simp (config := { maxSteps := 10000000 }) only [run_drx, run_xd, run_xq, run_xg, run_xb, EV1, EV2, EV3, EV4, EV5, EV6, addT, istep, lenR_sl, lenR_ns, lenR_es, pickR, putD, bin1R, un1R, slcR, bnd, capsOf, fillP, S_plain, V_plain, V.cells, S_known, V_known, C.v, blk, setL, setH, eqS, eq1, cmpS, cmp1, isNil, popTo, killT, setT, leT, V.below, C.below, S_below, R.below, V.val, C.val, S_val, R.val, R.takes, vals, shows, List.any_cons, List.any_nil, unnamed, V.kill, V.names, C.names, S_names, R.names, List.set, List.replicate, ↓q_cond_t, ↓q_cond_f, if_true, if_false, reduceCtorEq, rvals, rvC, result, C_known, V.noL, C.noL, S_noL, R.noL, Option.map, true_and, and_true, ge_iff_le, gt_iff_lt, implies_true, q_ite_t, q_ite_f, beq_iff_eq, bne_iff_ne, q_ne, Nat.reduceAdd, Nat.reducePow, Int.reducePow, Nat.reduceMul, Nat.reduceSub, Nat.reduceLeDiff, Nat.reduceLT, Nat.reduceEqDiff, Int.reduceNeg, Int.reduceLT, Int.reduceLE, Int.reduceEq, Int.reduceNe, Int.reduceAdd, Int.reduceSub, Int.reduceMul, Int.reduceToNat, Int.reduceBEq, Int.reduceBNe, df68, ↓hlen, TSp, thereG, memF_eq H, thereM, setM_self H, hh]
    refine loop_rule (α := Nat) [8, 16, 17, 18, 19, 20, 21, 22, 23, 24, 25, 26, 27, 28, 29, 30, 31, 32, 33] (fun q => [(8, .s (.i .i64 q))]) (fun _ => []) (fun q => h.set b ⟨.rw, wc (m.lay i (vs.take q)).w, m.w.length⟩) (fun q => q ≤ vs.length) (fun q => vs.length - q) 0 (by omega) ?_ ?_
    · simp only [List.take_zero, M.lay]
      rw [show (⟨.rw, wc m.w, m.w.length⟩ : Blk) = MW m from rfl, set_self H.hb]
      refine Wk.less ?_
      simp (config := { maxSteps := 10000000 }) only [run_drx, run_xd, run_xq, run_xg, run_xb, EV1, EV2, EV3, EV4, EV5, EV6, addT, istep, lenR_sl, lenR_ns, lenR_es, pickR, putD, bin1R, un1R, slcR, bnd, capsOf, fillP, S_plain, V_plain, V.cells, S_known, V_known, C.v, blk, setL, setH, eqS, eq1, cmpS, cmp1, isNil, popTo, killT, setT, leT, V.below, C.below, S_below, R.below, V.val, C.val, S_val, R.val, R.takes, vals, shows, List.any_cons, List.any_nil, unnamed, V.kill, V.names, C.names, S_names, R.names, List.set, List.replicate, ↓q_cond_t, ↓q_cond_f, if_true, if_false, reduceCtorEq, rvals, rvC, result, C_known, V.noL, C.noL, S_noL, R.noL, Option.map, true_and, and_true, ge_iff_le, gt_iff_lt, implies_true, q_ite_t, q_ite_f, beq_iff_eq, bne_iff_ne, q_ne, Nat.reduceAdd, Nat.reducePow, Int.reducePow, Nat.reduceMul, Nat.reduceSub, Nat.reduceLeDiff, Nat.reduceLT, Nat.reduceEqDiff, Int.reduceNeg, Int.reduceLT, Int.reduceLE, Int.reduceEq, Int.reduceNe, Int.reduceAdd, Int.reduceSub, Int.reduceMul, Int.reduceToNat, Int.reduceBEq, Int.reduceBNe, q_cast, Int.natCast_zero]
    · intro X q hq IH
      rcases Nat.lt_or_ge q vs.length with h1 | h1
      · obtain ⟨j, o, c, B, rfl, hj, hd, hle, hs⟩ := HL.at h1
        have hap : j ≠ b := hap
        obtain ⟨d1, d2, d3, d4⟩ := idx h1 (by omega)
        have c3 : (h.set b ⟨BK.rw, wc (m.lay i (vs.take q)).w, m.w.length⟩)[b]? = some ⟨BK.rw, wc (m.lay i (vs.take q)).w, m.w.length⟩ := set_hit H.hb
        have c4 : i + q + 1 ≤ (wc (m.lay i (vs.take q)).w).length := by rw [wc_len, M.lay_len]; omega
        have g := IsList.get hs h1 rfl
        have hv : u64 (nth 0 vs q) := hu _ (nth_mem h1)
        have c5 : ((wc (m.lay i (vs.take q)).w).set (i + q) (S.i .u64 (nth 0 vs q))) = wc (m.lay i (vs.take (q + 1))).w := by
          rw [wc_set, take_snoc h1, M.lay_snoc, show (vs.take q).length = q by simp; omega]; simp only [M.put, uw_of hv]
        have hjm : (h.set b ⟨BK.rw, wc (m.lay i (vs.take q)).w, m.w.length⟩)[j]? = some B := by rw [set_miss (Ne.symm hap)]; exact hj
        have ha := H.ha'
        have w1 : IntKind.i64.wrap ((i : Int) + q) = ((i + q : Nat) : Int) := by rw [wrap64] <;> omega
        have d5 : ((i + q : Nat) : Int) < m.w.length := by omega
        have d6 : (0 : Int) ≤ ((i + q : Nat) : Int) := by omega
        refine run_sound (Tab.ok_Γ _) 100 _ _ _ _ ?_
        simp (config := { maxSteps := 10000000 }) only [run_drx, run_xd, run_xq, run_xg, run_xb, EV1, EV2, EV3, EV4, EV5, EV6, addT, istep, lenR_sl, lenR_ns, lenR_es, pickR, putD, bin1R, un1R, slcR, bnd, capsOf, fillP, S_plain, V_plain, V.cells, S_known, V_known, C.v, blk, setL, setH, eqS, eq1, cmpS, cmp1, isNil, popTo, killT, setT, leT, V.below, C.below, S_below, R.below, V.val, C.val, S_val, R.val, R.takes, vals, shows, List.any_cons, List.any_nil, unnamed, V.kill, V.names, C.names, S_names, R.names, List.set, List.replicate, ↓q_cond_t, ↓q_cond_f, if_true, if_false, reduceCtorEq, rvals, rvC, result, C_known, V.noL, C.noL, S_noL, R.noL, Option.map, true_and, and_true, ge_iff_le, gt_iff_lt, implies_true, q_ite_t, q_ite_f, beq_iff_eq, bne_iff_ne, q_ne, Nat.reduceAdd, Nat.reducePow, Int.reducePow, Nat.reduceMul, Nat.reduceSub, Nat.reduceLeDiff, Nat.reduceLT, Nat.reduceEqDiff, Int.reduceNeg, Int.reduceLT, Int.reduceLE, Int.reduceEq, Int.reduceNe, Int.reduceAdd, Int.reduceSub, Int.reduceMul, Int.reduceToNat, Int.reduceBEq, Int.reduceBNe, d1, d2, d3, d4, d5, d6, w1, c3, ha, MB, hjm, hd, g, c4, Int.toNat_natCast, put, c5, List.set_set]
        exact IH (q + 1) _ (by omega) (by omega) (Wk.same rfl rfl (by simp (config := { maxSteps := 10000000 }) only [run_drx, run_xd, run_xq, run_xg, run_xb, EV1, EV2, EV3, EV4, EV5, EV6, addT, istep, lenR_sl, lenR_ns, lenR_es, pickR, putD, bin1R, un1R, slcR, bnd, capsOf, fillP, S_plain, V_plain, V.cells, S_known, V_known, C.v, blk, setL, setH, eqS, eq1, cmpS, cmp1, isNil, popTo, killT, setT, leT, V.below, C.below, S_below, R.below, V.val, C.val, S_val, R.val, R.takes, vals, shows, List.any_cons, List.any_nil, unnamed, V.kill, V.names, C.names, S_names, R.names, List.set, List.replicate, ↓q_cond_t, ↓q_cond_f, if_true, if_false, reduceCtorEq, rvals, rvC, result, C_known, V.noL, C.noL, S_noL, R.noL, Option.map, true_and, and_true, ge_iff_le, gt_iff_lt, implies_true, q_ite_t, q_ite_f, beq_iff_eq, bne_iff_ne, q_ne, Nat.reduceAdd, Nat.reducePow, Int.reducePow, Nat.reduceMul, Nat.reduceSub, Nat.reduceLeDiff, Nat.reduceLT, Nat.reduceEqDiff, Int.reduceNeg, Int.reduceLT, Int.reduceLE, Int.reduceEq, Int.reduceNe, Int.reduceAdd, Int.reduceSub, Int.reduceMul, Int.reduceToNat, Int.reduceBEq, Int.reduceBNe]))
      · have : q = vs.length := by omega
        subst this
        refine run_sound (Tab.ok_Γ _) 100 _ _ _ _ ?_
        simp (config := { maxSteps := 10000000 }) only [run_drx, run_xd, run_xq, run_xg, run_xb, EV1, EV2, EV3, EV4, EV5, EV6, addT, istep, lenR_sl, lenR_ns, lenR_es, pickR, putD, bin1R, un1R, slcR, bnd, capsOf, fillP, S_plain, V_plain, V.cells, S_known, V_known, C.v, blk, setL, setH, eqS, eq1, cmpS, cmp1, isNil, popTo, killT, setT, leT, V.below, C.below, S_below, R.below, V.val, C.val, S_val, R.val, R.takes, vals, shows, List.any_cons, List.any_nil, unnamed, V.kill, V.names, C.names, S_names, R.names, List.set, List.replicate, ↓q_cond_t, ↓q_cond_f, if_true, if_false, reduceCtorEq, rvals, rvC, result, C_known, V.noL, C.noL, S_noL, R.noL, Option.map, true_and, and_true, ge_iff_le, gt_iff_lt, implies_true, q_ite_t, q_ite_f, beq_iff_eq, bne_iff_ne, q_ne, Nat.reduceAdd, Nat.reducePow, Int.reducePow, Nat.reduceMul, Nat.reduceSub, Nat.reduceLeDiff, Nat.reduceLT, Nat.reduceEqDiff, Int.reduceNeg, Int.reduceLT, Int.reduceLE, Int.reduceEq, Int.reduceNe, Int.reduceAdd, Int.reduceSub, Int.reduceMul, Int.reduceToNat, Int.reduceBEq, Int.reduceBNe, ↓hlen, Int.lt_irrefl]
        refine cast (congrArg (K _) ?_) hS
        rw [List.take_length, ← setM_words H (M.lay_len vs m i) (M.lay_n vs m i)]
        simp only [MW, M.lay_len]
  | false =>
    have hS := q2 hh
    simp (config := { maxSteps := 10000000 }) only [run_drx, run_xd, run_xq, run_xg, run_xb, EV1, EV2, EV3, EV4, EV5, EV6, addT, istep, lenR_sl, lenR_ns, lenR_es, pickR, putD, bin1R, un1R, slcR, bnd, capsOf, fillP, S_plain, V_plain, V.cells, S_known, V_known, C.v, blk, setL, setH, eqS, eq1, cmpS, cmp1, isNil, popTo, killT, setT, leT, V.below, C.below, S_below, R.below, V.val, C.val, S_val, R.val, R.takes, vals, shows, List.any_cons, List.any_nil, unnamed, V.kill, V.names, C.names, S_names, R.names, List.set, List.replicate, ↓q_cond_t, ↓q_cond_f, if_true, if_false, reduceCtorEq, rvals, rvC, result, C_known, V.noL, C.noL, S_noL, R.noL, Option.map, true_and, and_true, ge_iff_le, gt_iff_lt, implies_true, q_ite_t, q_ite_f, beq_iff_eq, bne_iff_ne, q_ne, Nat.reduceAdd, Nat.reducePow, Int.reducePow, Nat.reduceMul, Nat.reduceSub, Nat.reduceLeDiff, Nat.reduceLT, Nat.reduceEqDiff, Int.reduceNeg, Int.reduceLT, Int.reduceLE, Int.reduceEq, Int.reduceNe, Int.reduceAdd, Int.reduceSub, Int.reduceMul, Int.reduceToNat, Int.reduceBEq, Int.reduceBNe, df68, ↓hlen, TSp, thereG, memF_eq H, thereM, setM_self H, hh]
    exact hS

noncomputable def sameWG : List V → List Blk → Res
  | [.s x, .s y], h => match listOf h x, listOf h y with
    | some v, some w => .ob (v.length ≤ 8796093022208 ∧ w.length ≤ 8796093022208) (.ok (.s (.b (decide (v = w)))) [] h)
    | _, _ => .bad
  | _, _ => .bad
theorem sameWG_spec {args : List V} {h : List Blk} {K : V → List Blk → Prop} (hS : (sameWG args h).spec K) : ∃ x y v w, args = [.s x, .s y] ∧ IsList h x v ∧ IsList h y w ∧ v.length ≤ 8796093022208 ∧ w.length ≤ 8796093022208 ∧ K (.s (.b (decide (v = w)))) h := by
  unfold sameWG at hS
  split at hS
  · split at hS
    · rename_i e1 e2
      exact ⟨_, _, _, _, rfl, listOf_some e1, listOf_some e2, hS.1.1, hS.1.2, hS.2⟩
    · exact hS.elim
  · exact hS.elim
theorem nil_of {v : List Int} (h : v.length = 0) : v = [] := List.eq_nil_of_length_eq_zero h
theorem take_ne {v w : List Int} {q : Nat} (h : q < v.length) (h' : q < w.length) (e : ¬ nth 0 v q = nth 0 w q) : v ≠ w := fun x => by subst x; exact e rfl
theorem eq_of_nth {v w : List Int} (hl : v.length = w.length) (h : ∀ i, i < v.length → nth 0 v i = nth 0 w i) : v = w :=
  List.ext_getElem hl fun i h1 h2 => by have := h i h1; rwa [nth_eq h1, nth_eq h2] at this
theorem sameW_snd : Snd Try.prog 27 (FSpec.of sameWG) := snd_run (noT_snd _) mixed Try.func27 dc27 100 fun args h K hc hS => by
  obtain ⟨x, y, v, w, rfl, Hx, Hy, lx, ly, hK⟩ := sameWG_spec hS
  clear hS
  have hlx := fun ls h' => Hx.sl.len (ls := ls) (h := h')
  have hly := fun ls h' => Hy.sl.len (ls := ls) (h := h')
  by_cases hn : v.length = w.length
  · have e2 : ((v.length : Int) != (w.length : Int)) = false := by rw [hn]; simp
    simp (config := { maxSteps := 10000000 }) only [run_drx, run_xd, run_xq, run_xg, run_xb, EV1, EV2, EV3, EV4, EV5, EV6, addT, istep, lenR_sl, lenR_ns, lenR_es, pickR, putD, bin1R, un1R, slcR, bnd, capsOf, fillP, S_plain, V_plain, V.cells, S_known, V_known, C.v, blk, setL, setH, eqS, eq1, cmpS, cmp1, isNil, popTo, killT, setT, leT, V.below, C.below, S_below, R.below, V.val, C.val, S_val, R.val, R.takes, vals, shows, List.any_cons, List.any_nil, unnamed, V.kill, V.names, C.names, S_names, R.names, List.set, List.replicate, ↓q_cond_t, ↓q_cond_f, if_true, if_false, reduceCtorEq, rvals, rvC, result, C_known, V.noL, C.noL, S_noL, R.noL, Option.map, true_and, and_true, ge_iff_le, gt_iff_lt, implies_true, q_ite_t, q_ite_f, beq_iff_eq, bne_iff_ne, q_ne, Nat.reduceAdd, Nat.reducePow, Int.reducePow, Nat.reduceMul, Nat.reduceSub, Nat.reduceLeDiff, Nat.reduceLT, Nat.reduceEqDiff, Int.reduceNeg, Int.reduceLT, Int.reduceLE, Int.reduceEq, Int.reduceNe, Int.reduceAdd, Int.reduceSub, Int.reduceMul, Int.reduceToNat, Int.reduceBEq, Int.reduceBNe, df27, ↓hlx, ↓hly, e2]
    refine loop_rule (α := Nat) [4, 5, 11, 12, 13, 14, 15, 16, 17, 18, 19, 20, 21, 22, 23, 24, 25] (fun q => [(5, .s (.i .i64 q))]) (fun _ => []) (fun q => h) (fun q => q ≤ v.length ∧ ∀ i, i < q → nth 0 v i = nth 0 w i) (fun q => v.length - q) 0 ⟨by omega, fun i hi => by omega⟩ ?_ ?_
    · refine Wk.less ?_
      simp (config := { maxSteps := 10000000 }) only [run_drx, run_xd, run_xq, run_xg, run_xb, EV1, EV2, EV3, EV4, EV5, EV6, addT, istep, lenR_sl, lenR_ns, lenR_es, pickR, putD, bin1R, un1R, slcR, bnd, capsOf, fillP, S_plain, V_plain, V.cells, S_known, V_known, C.v, blk, setL, setH, eqS, eq1, cmpS, cmp1, isNil, popTo, killT, setT, leT, V.below, C.below, S_below, R.below, V.val, C.val, S_val, R.val, R.takes, vals, shows, List.any_cons, List.any_nil, unnamed, V.kill, V.names, C.names, S_names, R.names, List.set, List.replicate, ↓q_cond_t, ↓q_cond_f, if_true, if_false, reduceCtorEq, rvals, rvC, result, C_known, V.noL, C.noL, S_noL, R.noL, Option.map, true_and, and_true, ge_iff_le, gt_iff_lt, implies_true, q_ite_t, q_ite_f, beq_iff_eq, bne_iff_ne, q_ne, Nat.reduceAdd, Nat.reducePow, Int.reducePow, Nat.reduceMul, Nat.reduceSub, Nat.reduceLeDiff, Nat.reduceLT, Nat.reduceEqDiff, Int.reduceNeg, Int.reduceLT, Int.reduceLE, Int.reduceEq, Int.reduceNe, Int.reduceAdd, Int.reduceSub, Int.reduceMul, Int.reduceToNat, Int.reduceBEq, Int.reduceBNe, q_cast, Int.natCast_zero]
    · rintro X q ⟨hq, hpre⟩ IH
      rcases Nat.lt_or_ge q v.length with h1 | h1
      · obtain ⟨j, o, c, B, rfl, hj, hd, hle, hs⟩ := Hx.at h1
        obtain ⟨j2, o2, c2, B2, rfl, hj2, hd2, hle2, hs2⟩ := Hy.at (i := q) (by omega)
        obtain ⟨d1, d2, d3, d4⟩ := idx h1 (by omega)
        have d5 : (q : Int) < w.length := by omega
        have g1 := IsList.get hs h1 rfl
        have g2 := IsList.get hs2 (i := q) (by omega) rfl
        by_cases hx : nth 0 v q = nth 0 w q
        · have f1 : (nth 0 v q != nth 0 w q) = false := by simpa using hx
          refine run_sound (Tab.ok_Γ _) 100 _ _ _ _ ?_
          simp (config := { maxSteps := 10000000 }) only [run_drx, run_xd, run_xq, run_xg, run_xb, EV1, EV2, EV3, EV4, EV5, EV6, addT, istep, lenR_sl, lenR_ns, lenR_es, pickR, putD, bin1R, un1R, slcR, bnd, capsOf, fillP, S_plain, V_plain, V.cells, S_known, V_known, C.v, blk, setL, setH, eqS, eq1, cmpS, cmp1, isNil, popTo, killT, setT, leT, V.below, C.below, S_below, R.below, V.val, C.val, S_val, R.val, R.takes, vals, shows, List.any_cons, List.any_nil, unnamed, V.kill, V.names, C.names, S_names, R.names, List.set, List.replicate, ↓q_cond_t, ↓q_cond_f, if_true, if_false, reduceCtorEq, rvals, rvC, result, C_known, V.noL, C.noL, S_noL, R.noL, Option.map, true_and, and_true, ge_iff_le, gt_iff_lt, implies_true, q_ite_t, q_ite_f, beq_iff_eq, bne_iff_ne, q_ne, Nat.reduceAdd, Nat.reducePow, Int.reducePow, Nat.reduceMul, Nat.reduceSub, Nat.reduceLeDiff, Nat.reduceLT, Nat.reduceEqDiff, Int.reduceNeg, Int.reduceLT, Int.reduceLE, Int.reduceEq, Int.reduceNe, Int.reduceAdd, Int.reduceSub, Int.reduceMul, Int.reduceToNat, Int.reduceBEq, Int.reduceBNe, d1, d2, d3, d4, d5, g1, g2, hj, hj2, hd, hd2, f1, hx, Int.toNat_natCast]
          exact IH (q + 1) _ (by omega) ⟨by omega, fun i hi => by
            rcases Nat.lt_or_ge i q with h2 | h2
            · exact hpre i h2
            · have : i = q := by omega
              subst this; exact hx⟩ (Wk.same rfl rfl (by simp (config := { maxSteps := 10000000 }) only [run_drx, run_xd, run_xq, run_xg, run_xb, EV1, EV2, EV3, EV4, EV5, EV6, addT, istep, lenR_sl, lenR_ns, lenR_es, pickR, putD, bin1R, un1R, slcR, bnd, capsOf, fillP, S_plain, V_plain, V.cells, S_known, V_known, C.v, blk, setL, setH, eqS, eq1, cmpS, cmp1, isNil, popTo, killT, setT, leT, V.below, C.below, S_below, R.below, V.val, C.val, S_val, R.val, R.takes, vals, shows, List.any_cons, List.any_nil, unnamed, V.kill, V.names, C.names, S_names, R.names, List.set, List.replicate, ↓q_cond_t, ↓q_cond_f, if_true, if_false, reduceCtorEq, rvals, rvC, result, C_known, V.noL, C.noL, S_noL, R.noL, Option.map, true_and, and_true, ge_iff_le, gt_iff_lt, implies_true, q_ite_t, q_ite_f, beq_iff_eq, bne_iff_ne, q_ne, Nat.reduceAdd, Nat.reducePow, Int.reducePow, Nat.reduceMul, Nat.reduceSub, Nat.reduceLeDiff, Nat.reduceLT, Nat.reduceEqDiff, Int.reduceNeg, Int.reduceLT, Int.reduceLE, Int.reduceEq, Int.reduceNe, Int.reduceAdd, Int.reduceSub, Int.reduceMul, Int.reduceToNat, Int.reduceBEq, Int.reduceBNe]))
        · have f1 : (nth 0 v q != nth 0 w q) = true := by simpa using hx
          have e1 := take_ne h1 (by omega) hx
          simp only [e1, decide_false] at hK
          refine run_sound (Tab.ok_Γ _) 100 _ _ _ _ ?_
          simp (config := { maxSteps := 10000000 }) only [run_drx, run_xd, run_xq, run_xg, run_xb, EV1, EV2, EV3, EV4, EV5, EV6, addT, istep, lenR_sl, lenR_ns, lenR_es, pickR, putD, bin1R, un1R, slcR, bnd, capsOf, fillP, S_plain, V_plain, V.cells, S_known, V_known, C.v, blk, setL, setH, eqS, eq1, cmpS, cmp1, isNil, popTo, killT, setT, leT, V.below, C.below, S_below, R.below, V.val, C.val, S_val, R.val, R.takes, vals, shows, List.any_cons, List.any_nil, unnamed, V.kill, V.names, C.names, S_names, R.names, List.set, List.replicate, ↓q_cond_t, ↓q_cond_f, if_true, if_false, reduceCtorEq, rvals, rvC, result, C_known, V.noL, C.noL, S_noL, R.noL, Option.map, true_and, and_true, ge_iff_le, gt_iff_lt, implies_true, q_ite_t, q_ite_f, beq_iff_eq, bne_iff_ne, q_ne, Nat.reduceAdd, Nat.reducePow, Int.reducePow, Nat.reduceMul, Nat.reduceSub, Nat.reduceLeDiff, Nat.reduceLT, Nat.reduceEqDiff, Int.reduceNeg, Int.reduceLT, Int.reduceLE, Int.reduceEq, Int.reduceNe, Int.reduceAdd, Int.reduceSub, Int.reduceMul, Int.reduceToNat, Int.reduceBEq, Int.reduceBNe, d1, d2, d3, d4, d5, g1, g2, hj, hj2, hd, hd2, f1, hx, Int.toNat_natCast]
          exact hK
      · have : q = v.length := by omega
        subst this
        have e1 := eq_of_nth hn hpre
        simp only [e1, decide_true] at hK
        refine run_sound (Tab.ok_Γ _) 100 _ _ _ _ ?_
        simp (config := { maxSteps := 10000000 }) only [run_drx, run_xd, run_xq, run_xg, run_xb, EV1, EV2, EV3, EV4, EV5, EV6, addT, istep, lenR_sl, lenR_ns, lenR_es, pickR, putD, bin1R, un1R, slcR, bnd, capsOf, fillP, S_plain, V_plain, V.cells, S_known, V_known, C.v, blk, setL, setH, eqS, eq1, cmpS, cmp1, isNil, popTo, killT, setT, leT, V.below, C.below, S_below, R.below, V.val, C.val, S_val, R.val, R.takes, vals, shows, List.any_cons, List.any_nil, unnamed, V.kill, V.names, C.names, S_names, R.names, List.set, List.replicate, ↓q_cond_t, ↓q_cond_f, if_true, if_false, reduceCtorEq, rvals, rvC, result, C_known, V.noL, C.noL, S_noL, R.noL, Option.map, true_and, and_true, ge_iff_le, gt_iff_lt, implies_true, q_ite_t, q_ite_f, beq_iff_eq, bne_iff_ne, q_ne, Nat.reduceAdd, Nat.reducePow, Int.reducePow, Nat.reduceMul, Nat.reduceSub, Nat.reduceLeDiff, Nat.reduceLT, Nat.reduceEqDiff, Int.reduceNeg, Int.reduceLT, Int.reduceLE, Int.reduceEq, Int.reduceNe, Int.reduceAdd, Int.reduceSub, Int.reduceMul, Int.reduceToNat, Int.reduceBEq, Int.reduceBNe, ↓hlx, Int.lt_irrefl]
        exact hK
  · have e1 : ¬ (v = w) := fun e => hn (by rw [e])
    have e2 : ((v.length : Int) != (w.length : Int)) = true := by rw [bne_iff_ne]; omega
    have e3 : ¬ ((v.length : Int) = (w.length : Int)) := by omega
    simp only [e1, decide_false] at hK
    simp (config := { maxSteps := 10000000 }) only [run_drx, run_xd, run_xq, run_xg, run_xb, EV1, EV2, EV3, EV4, EV5, EV6, addT, istep, lenR_sl, lenR_ns, lenR_es, pickR, putD, bin1R, un1R, slcR, bnd, capsOf, fillP, S_plain, V_plain, V.cells, S_known, V_known, C.v, blk, setL, setH, eqS, eq1, cmpS, cmp1, isNil, popTo, killT, setT, leT, V.below, C.below, S_below, R.below, V.val, C.val, S_val, R.val, R.takes, vals, shows, List.any_cons, List.any_nil, unnamed, V.kill, V.names, C.names, S_names, R.names, List.set, List.replicate, ↓q_cond_t, ↓q_cond_f, if_true, if_false, reduceCtorEq, rvals, rvC, result, C_known, V.noL, C.noL, S_noL, R.noL, Option.map, true_and, and_true, ge_iff_le, gt_iff_lt, implies_true, q_ite_t, q_ite_f, beq_iff_eq, bne_iff_ne, q_ne, Nat.reduceAdd, Nat.reducePow, Int.reducePow, Nat.reduceMul, Nat.reduceSub, Nat.reduceLeDiff, Nat.reduceLT, Nat.reduceEqDiff, Int.reduceNeg, Int.reduceLT, Int.reduceLE, Int.reduceEq, Int.reduceNe, Int.reduceAdd, Int.reduceSub, Int.reduceMul, Int.reduceToNat, Int.reduceBEq, Int.reduceBNe, df27, ↓hlx, ↓hly, e2, e3]
    exact hK
end Go.Proofs.Ytdlloccodmdnnaa

/- Slots: what was put is got; the plain facts. -/
namespace Go.Proofs.Ytdlloccodmdnnaa
open Go.D
set_option linter.all false
set_option maxRecDepth 100000
set_option maxHeartbeats 4000000

theorem M.putS_len (m : M) (a : Int) (s : Slot) : (m.putS a s).w.length = m.w.length := by simp only [M.putS, M.tick_len, M.put_len]
theorem M.putS_there (m : M) (a b : Int) (s : Slot) : thereB (m.putS a s) b = thereB m b := by simp only [thereB, M.putS_len]
theorem M.putS_has (m : M) (a x k : Int) (s : Slot) : (m.putS a s).has x k = m.has x k := by simp only [M.has, M.putS_len]
theorem M.tick_there (m : M) (k b : Int) : thereB (m.tick k) b = thereB m b := rfl
theorem M.tick_slotB (m : M) (k b : Int) : (m.tick k).slotB b = m.slotB b := rfl
theorem M.tick_slotC (m : M) (k b : Int) : (m.tick k).slotC b = m.slotC b := rfl
theorem uw_0 : uw 0 = 0 := rfl
theorem M.at_putS {m : M} {a : Int} {s : Slot} (ht : thereB m a = true) (hr : slotRB s = true) {j : Int} (hj : 0 ≤ j) :
    (m.putS a s).at j = if j = a then s.cap.w0 else if j = a + 1 then s.cap.num else if j = a + 2 then s.links else if j = a + 3 then 0 else m.at j := by
  have hb := there_iff.1 ht
  obtain ⟨u0, u1, _, _⟩ := enc_back (slotRB_iff hr).1
  have u2 := links_u hr
  simp only [M.putS, M.at_tick, M.at_put, M.put_len, uw_of u0, uw_of u1, uw_of u2, uw_0]
  by_cases h0 : j = a
  · subst h0
    rw [if_neg (by omega), if_neg (by omega), if_neg (by omega), if_pos (by omega), if_pos rfl]
  · rw [if_neg h0]
    by_cases h1 : j = a + 1
    · subst h1
      rw [if_neg (by omega), if_neg (by omega), if_pos (by omega), if_pos rfl]
    · rw [if_neg h1]
      by_cases h2 : j = a + 2
      · subst h2
        rw [if_neg (by omega), if_pos (by omega), if_pos rfl]
      · rw [if_neg h2]
        by_cases h3 : j = a + 3
        · subst h3
          rw [if_pos (by omega), if_pos rfl]
        · rw [if_neg h3, if_neg (by omega), if_neg (by omega), if_neg (by omega), if_neg (by omega)]
theorem slot_back {s : Slot} (hr : slotRB s = true) : slotB s.cap.w0 s.cap.num s.links 0 = true ∧ slotC s.cap.w0 s.cap.num s.links = s := by
  obtain ⟨rc, h1, h2, h3⟩ := slotRB_iff hr
  obtain ⟨_, _, e1, e2⟩ := enc_back rc
  have e : slotC s.cap.w0 s.cap.num s.links = s := by
    obtain ⟨c, p, n, d⟩ := s
    simp only at h1 h2 h3 e2
    simp only [slotC, e2, Slot.links, Slot.mk.injEq, true_and]
    omega
  refine ⟨?_, e⟩
  have hl : s.links / 281474976710656 = 0 := by simp only [Slot.links]; omega
  simp only [slotB, e1, e, hr, hl, decide_true, Bool.true_and, beq_self_eq_true, Bool.and_true]
theorem M.putS_slot {m : M} {a : Int} {s : Slot} (ht : thereB m a = true) (hr : slotRB s = true) : (m.putS a s).slotB a = true ∧ (m.putS a s).slotC a = s := by
  have hb := there_iff.1 ht
  simp only [M.slotB, M.slotC]
  rw [M.at_putS ht hr (by omega), M.at_putS ht hr (by omega), M.at_putS ht hr (by omega), M.at_putS ht hr (by omega)]
  simp only [if_true]
  rw [if_neg (by omega), if_neg (by omega), if_neg (by omega), if_neg (by omega), if_neg (by omega), if_neg (by omega)]
  exact slot_back hr
theorem M.putS_other {m : M} {a b : Int} {s : Slot} (ht : thereB m a = true) (hr : slotRB s = true) (hb : thereB m b = true) (hn : a ≠ b) : (m.putS a s).slotB b = m.slotB b ∧ (m.putS a s).slotC b = m.slotC b := by
  have h1 := there_iff.1 ht
  have h2 := there_iff.1 hb
  rw [Int.tmod_eq_emod_of_nonneg (by omega)] at h1 h2
  have e : ∀ k : Int, 0 ≤ k → k ≤ 3 → (m.putS a s).at (b + k) = m.at (b + k) := fun k h3 h4 => by
    rw [M.at_putS ht hr (by omega), if_neg (by omega), if_neg (by omega), if_neg (by omega), if_neg (by omega)]
  have e0 := e 0 (by omega) (by omega)
  rw [Int.add_zero] at e0
  simp only [M.slotB, M.slotC, e0, e 1 (by omega) (by omega), e 2 (by omega) (by omega), e 3 (by omega) (by omega), and_self]
theorem putS_comm {m : M} {a b : Int} {s t : Slot} (ha : thereB m a = true) (hb : thereB m b = true) (hs : slotRB s = true) (ht : slotRB t = true) (hn : a ≠ b) : ((m.putS a s).putS b t).w = ((m.putS b t).putS a s).w := by
  have h1 := there_iff.1 ha
  have h2 := there_iff.1 hb
  rw [Int.tmod_eq_emod_of_nonneg (by omega)] at h1 h2
  refine eq_of_nth (by simp only [M.putS_len]) fun i hi => ?_
  have g1 : ((m.putS a s).putS b t).at i = ((m.putS b t).putS a s).at i := by
    have e1 := M.at_putS (m := m.putS a s) (a := b) (s := t) (j := (i : Int)) (by rw [M.putS_there]; exact hb) ht (by omega)
    have e2 := M.at_putS (m := m.putS b t) (a := a) (s := s) (j := (i : Int)) (by rw [M.putS_there]; exact ha) hs (by omega)
    rw [e1, e2, M.at_putS ha hs (by omega), M.at_putS hb ht (by omega)]
    by_cases k0 : (i : Int) = a ∨ (i : Int) = a + 1 ∨ (i : Int) = a + 2 ∨ (i : Int) = a + 3
    · have n0 : ¬ (i : Int) = b := by omega
      have n1 : ¬ (i : Int) = b + 1 := by omega
      have n2 : ¬ (i : Int) = b + 2 := by omega
      have n3 : ¬ (i : Int) = b + 3 := by omega
      simp only [n0, n1, n2, n3, if_false]
    · have n0 : ¬ (i : Int) = a := by omega
      have n1 : ¬ (i : Int) = a + 1 := by omega
      have n2 : ¬ (i : Int) = a + 2 := by omega
      have n3 : ¬ (i : Int) = a + 3 := by omega
      simp only [n0, n1, n2, n3, if_false]
  simpa [M.at] using g1
theorem nth_window {l : List Int} {a k i : Nat} (h : i < k) : nth 0 ((l.drop a).take k) i = nth 0 l (a + i) := by
  induction a generalizing l with
  | zero =>
    simp only [List.drop_zero, Nat.zero_add]
    induction k generalizing l i with
    | zero => omega
    | succ k ih =>
      cases l with
      | nil => rfl
      | cons x l =>
        cases i with
        | zero => rfl
        | succ i => exact ih (l := l) (by omega)
  | succ a ih =>
    cases l with
    | nil => simp [nth]
    | cons x l =>
      rw [List.drop_succ_cons, ih, show a + 1 + i = (a + i) + 1 by omega]; rfl
theorem M.window4 {m : M} {a : Int} {s : Slot} (ht : thereB m a = true) (hr : slotRB s = true) : ((m.putS a s).w.drop a.toNat).take 4 = [s.cap.w0, s.cap.num, s.links, 0] := by
  have hb := there_iff.1 ht
  refine eq_of_nth (by simp [M.putS_len]; omega) fun i hi => ?_
  have h4 : i < 4 := by simp [M.putS_len] at hi; omega
  rw [nth_window h4]
  have g := M.at_putS ht hr (j := ((a.toNat + i : Nat) : Int)) (by omega)
  simp only [M.at, Int.toNat_natCast] at g
  rw [g]
  have : i = 0 ∨ i = 1 ∨ i = 2 ∨ i = 3 := by omega
  rcases this with rfl | rfl | rfl | rfl
  · rw [if_pos (by omega)]; rfl
  · rw [if_neg (by omega), if_pos (by omega)]; rfl
  · rw [if_neg (by omega), if_neg (by omega), if_pos (by omega)]; rfl
  · rw [if_neg (by omega), if_neg (by omega), if_neg (by omega), if_pos (by omega)]; rfl
end Go.Proofs.Ytdlloccodmdnnaa

/- The machine's memory: more facts for use: new memories among the blocks, Load without choices. -/
namespace Go.Proofs.Ytdlloccodmdnnaa
open Go.D
set_option linter.all false
set_option maxRecDepth 100000
set_option maxHeartbeats 4000000

theorem memF_newA {f : Nat → M → (M → List Blk) → List V → Res} {h X : List Blk} {m : M} {rest : List V} : memF f (.s (.p (.g h.length) 0) :: rest) (memH h m ++ X) = f (h.length + 1) m (fun m => memH h m ++ X) rest := by
  rw [memF_app0 (memH_is h m), memH_fun]
theorem memF_new1A {f : Nat → M → (M → List Blk) → List V → Res} {h X : List Blk} {m k : M} {rest : List V} : memF f (.s (.p (.g h.length) 0) :: rest) (memH (memH h m) k ++ X) = f (h.length + 1) m (fun m => memH (memH h m) k ++ X) rest := by
  rw [memF_app0 (memH_is1 h m k), show setM (memH (memH h m) k) h.length (h.length + 1) = fun m => memH (memH h m) k from funext (memH_set1 h m k)]
theorem memF_new2A {f : Nat → M → (M → List Blk) → List V → Res} {h X : List Blk} {m k : M} {rest : List V} : memF f (.s (.p (.g (h.length + 2)) 0) :: rest) (memH (memH h m) k ++ X) = f (h.length + 3) k (fun k => memH (memH h m) k ++ X) rest := by
  rw [memF_app0 (memH_is2 h m k), show setM (memH (memH h m) k) (h.length + 2) (h.length + 3) = memH (memH h m) from funext (memH_set2 h m k)]

section
variable {h X : List Blk} {m : M} {k : Nat}
theorem mg0 : (memH h m ++ X)[h.length + 2]? = X[0]? := by rw [List.getElem?_append_right (by rw [memH_len]; omega), memH_len, Nat.sub_self]
theorem mg1 : (memH h m ++ X)[h.length + 2 + k]? = X[k]? := by rw [List.getElem?_append_right (by rw [memH_len]; omega), memH_len, Nat.add_sub_cancel_left]
theorem mg2 : (memH h m ++ X)[h.length + 2 + 1 + k]? = X[k + 1]? := by
  rw [List.getElem?_append_right (by rw [memH_len]; omega), memH_len]
  congr 1; omega
theorem mt1 : (memH h m ++ X).take (h.length + 2 + k) = memH h m ++ X.take k := by
  have := app_taken (h := memH h m) (r := X) (n := k)
  rwa [memH_len] at this
theorem md1 : (memH h m ++ X).drop (h.length + 2 + k) = X.drop k := by
  have := app_dropn (h := memH h m) (r := X) (n := k)
  rwa [memH_len] at this
theorem memH_clean (hc : clean h.length h = true) : clean (h.length + 2) (memH h m) = true := by
  refine clean_app hc (by omega) ?_
  simp only [clean, List.all_cons, List.all_nil, Bool.and_true, Bool.and_eq_true, MB, MW, wc_vals]
  simp [vals, S.val, R.val]
theorem memH_cleanA {n : Nat} (hc : clean h.length h = true) (hn : h.length + 2 ≤ n) (hX : clean n X = true) : clean n (memH h m ++ X) = true := clean_app (memH_clean hc) hn hX
theorem listOf_at {H : List Blk} {j c room : Nat} {st : BK} {vs : List Int} {n : Nat} (hj : H[j]? = some ⟨st, wc vs, room⟩) (hs : st ≠ .dead) (hn : vs.length = n) : listOf H (.sl (.g j) 0 n c) = some vs := by
  subst hn; exact listOf_eq (IsList.whole hj hs)
end

theorem take_all {l : List Int} {n : Nat} (h : l.length = n) : l.take n = l := List.take_of_length_le (by omega)
theorem mh2_len {h : List Blk} {m k : M} {X : List Blk} : (memH (memH h m) k ++ X).length = h.length + 2 + 2 + X.length := by rw [List.length_append, memH_len, memH_len]
section
variable {h X : List Blk} {m n : M} {k : Nat}
theorem nh0 : (memH (memH h m) n ++ X)[h.length + 2 + 2]? = X[0]? := by
  have := mg0 (h := memH h m) (m := n) (X := X); rwa [memH_len] at this
theorem nh1 : (memH (memH h m) n ++ X)[h.length + 2 + 2 + k]? = X[k]? := by
  have := mg1 (h := memH h m) (m := n) (X := X) (k := k); rwa [memH_len] at this
theorem nt1 : (memH (memH h m) n ++ X).take (h.length + 2 + 2 + k) = memH (memH h m) n ++ X.take k := by
  have := mt1 (h := memH h m) (m := n) (X := X) (k := k); rwa [memH_len] at this
theorem nd1 : (memH (memH h m) n ++ X).drop (h.length + 2 + 2 + k) = X.drop k := by
  have := md1 (h := memH h m) (m := n) (X := X) (k := k); rwa [memH_len] at this
theorem memH2_app : memH (memH h m) n ++ X = h ++ ([MB (h.length + 1) m, MW m] ++ ([MB (h.length + 2 + 1) n, MW n] ++ X)) := by
  show h ++ [_, _] ++ [MB ((h ++ [_, _]).length + 1) n, _] ++ X = _
  simp
end

section
variable {h X : List Blk} {m n m' n' : M} {k : Nat} {B : Blk}
theorem nh2 : (memH (memH h m) n ++ (B :: X))[h.length + 2 + 2 + 1 + k]? = X[k]? := by
  rw [List.getElem?_append_right (by rw [memH_len, memH_len]; omega), memH_len, memH_len]
  rw [show h.length + 2 + 2 + 1 + k - (h.length + 2 + 2) = k + 1 by omega]; rfl
theorem nhl {j : Nat} (hj : j < h.length) : (memH (memH h m) n ++ X)[j]? = h[j]? := by rw [memH2_app, List.getElem?_append_left hj]
theorem memOf_1 : memOf (memH (memH h m) n ++ X) h.length = some (h.length + 1, m) := memOf_eq (memH_is1 h m n).app
theorem memOf_2 : memOf (memH (memH h m) n ++ X) (h.length + 2) = some (h.length + 3, n) := memOf_eq (memH_is2 h m n).app
theorem setM_1 : setM (memH (memH h m) n ++ X) h.length (h.length + 1) m' = memH (memH h m') n ++ X := by rw [setM_app (memH_is1 h m n), memH_set1]
theorem setM_2 : setM (memH (memH h m) n ++ X) (h.length + 2) (h.length + 3) n' = memH (memH h m) n' ++ X := by rw [setM_app (memH_is2 h m n), memH_set2]
theorem clean_both {c : Nat} (hc : clean c (memH (memH h m) n ++ X) = true) (hl : h.length + 4 ≤ c) : clean c (memH (memH h m') n' ++ X) = true := by
  rw [memH2_app] at hc ⊢
  simp only [clean, List.all_append, List.all_cons, List.all_nil, Bool.and_eq_true, Bool.and_true] at hc ⊢
  obtain ⟨h1, _, _, h2⟩ := hc
  refine ⟨h1, ⟨?_, wc_vals _ _ _⟩, ⟨?_, wc_vals _ _ _⟩, h2⟩
  · simp [MB, vals, S.val, R.val]; omega
  · simp [MB, vals, S.val, R.val]; omega
end

def M.loadE (m : M) (x : Int) (vs : List Int) : Int := if m.has x vs.length then 0 else 20
def M.loadX (m : M) (x : Int) (vs : List Int) : M := if m.has x vs.length then m.lay x.toNat vs else m
noncomputable def load2G : List V → List Blk → Res
  | [.s (.p (.g a) 0), .s (.i .i64 x), .s s], h => match memOf h a, listOf h s with
    | some (b, m), some vs => .ob (apartS b s ∧ ∀ v, v ∈ vs → u64 v) (.ok (.s (.i .i64 (m.loadE x vs))) [] (setM h a b (m.loadX x vs)))
    | _, _ => .bad
  | _, _ => .bad

theorem load2_snd : Snd Try.prog 54 (FSpec.of load2G) := mload_snd.weaken fun args h K hc hS => by
  have hS : (load2G args h).spec K := hS
  unfold load2G at hS
  split at hS
  · rename_i a x s
    split at hS
    · rename_i b m vs e1 e2
      obtain ⟨hp, hS⟩ := hS
      simp only [spec_ok, M.loadE, M.loadX] at hS
      show Res.spec K (loadG _ h)
      simp only [loadG, e1, e2, spec_ob, spec_br, spec_ok]
      refine ⟨hp, fun e => ?_, fun e => ?_⟩
      · simpa only [e, if_true] using hS
      · have := setM_self (memOf_some e1)
        simpa only [e, Bool.false_eq_true, if_false, this] using hS
    · exact hS.elim
  · exact hS.elim
theorem rload2_snd : Snd Try.prog 68 (FSpec.of load2G) := rload_snd.weaken fun args h K hc hS => by
  have hS : (load2G args h).spec K := hS
  unfold load2G at hS
  split at hS
  · rename_i a x s
    split at hS
    · rename_i b m vs e1 e2
      obtain ⟨hp, hS⟩ := hS
      simp only [spec_ok, M.loadE, M.loadX] at hS
      show Res.spec K (loadG _ h)
      simp only [loadG, e1, e2, spec_ob, spec_br, spec_ok]
      refine ⟨hp, fun e => ?_, fun e => ?_⟩
      · simpa only [e, if_true] using hS
      · have := setM_self (memOf_some e1)
        simpa only [e, Bool.false_eq_true, if_false, this] using hS
    · exact hS.elim
  · exact hS.elim

theorem M.loadX_len (m : M) (x : Int) (vs : List Int) : (m.loadX x vs).w.length = m.w.length := by
  unfold M.loadX; split
  · exact M.lay_len _ _ _
  · rfl
end Go.Proofs.Ytdlloccodmdnnaa

/- Law 07: awake. -/
namespace Go.Proofs.Ytdlloccodmdnnaa
open Go.D
set_option linter.all false
set_option maxRecDepth 100000
set_option maxHeartbeats 4000000

def awake7G : List V → List Blk → Res
  | [], h => .ok (.s (.b true)) [] h
  | _, _ => .bad
def exS : Slot := ⟨⟨5, 2048, 0, 0, 0, 0, 0, 3, 0, 0, 0⟩, 1024, 0, 1⟩
def exT : Slot := ⟨capZ, 0, 0, 1⟩
end Go.Proofs.Ytdlloccodmdnnaa

/- Slots: the same specs without choices. -/
namespace Go.Proofs.Ytdlloccodmdnnaa
open Go.D
set_option linter.all false
set_option maxRecDepth 100000
set_option maxHeartbeats 4000000

def M.putE (m : M) (a : Int) (s : Slot) : Int := if thereB m a then (if slotRB s then 0 else 110) else 20
def M.putX (m : M) (a : Int) (s : Slot) : M := if thereB m a && slotRB s then m.putS a s else m
def M.getE (m : M) (a : Int) : Int := if thereB m a then (if m.slotB a then 0 else 110) else 20
def M.getV (m : M) (a : Int) : Slot := if thereB m a && m.slotB a then m.slotC a else slotZ
def M.getX (m : M) (a : Int) : M := if thereB m a then m.tick 4 else m
def M.emptyV (m : M) (a : Int) : Bool := thereB m a && (m.slotB a && (m.slotC a).isZ)

def put2M (b : Nat) (m : M) (st : M → List Blk) : List V → Res
  | [.s (.i .i64 a), x] => slotF (fun s => .ok (.s (.i .i64 (m.putE a s))) [] (st (m.putX a s))) [x]
  | _ => .bad
noncomputable def put2G := memF put2M
def get2M (b : Nat) (m : M) (st : M → List Blk) : List V → Res
  | [.s (.i .i64 a)] => .ok (.tup [.agg (m.getV a).cl, .s (.i .i64 (m.getE a))]) [] (st (m.getX a))
  | _ => .bad
noncomputable def get2G := memF get2M
def empty2M (b : Nat) (m : M) (st : M → List Blk) : List V → Res
  | [.s (.i .i64 a)] => .ok (.tup [.s (.b (m.emptyV a)), .s (.i .i64 (m.getE a))]) [] (st (m.getX a))
  | _ => .bad
noncomputable def empty2G := memF empty2M
theorem rput2_snd : Snd Try.prog 53 (FSpec.of put2G) := rputS_snd.weaken fun args h K hc hS => by
  obtain ⟨a, b, m, rest, rfl, H, hS1⟩ := memF_spec hS
  clear hS
  unfold put2M at hS1
  split at hS1
  · rename_i x y
    obtain ⟨s, e, hR⟩ := slotF_spec hS1
    simp only [List.cons.injEq, and_true] at e
    subst e
    simp only [spec_ok, M.putE, M.putX] at hR
    show Res.spec K (putSG _ h)
    rw [putSG, memF_eq H]
    show Res.spec K (.br (thereB m x) (.br (slotRB s) (.ok (.s (.i .i64 0)) [] (setM h a b (m.putS x s))) (.ok (.s (.i .i64 110)) [] (setM h a b m))) (.ok (.s (.i .i64 20)) [] (setM h a b m)))
    simp only [spec_br, spec_ok]
    refine ⟨fun e => ⟨fun e1 => ?_, fun e1 => ?_⟩, fun e => ?_⟩
    · simpa only [e, e1, Bool.and_self, if_true] using hR
    · simpa only [e, e1, Bool.and_false, Bool.false_eq_true, if_true, if_false] using hR
    · simpa only [e, Bool.false_and, Bool.false_eq_true, if_false] using hR
  · exact hS1.elim
theorem get2_snd : Snd Try.prog 57 (FSpec.of get2G) := getS_snd.weaken fun args h K hc hS => by
  obtain ⟨a, b, m, rest, rfl, H, hS1⟩ := memF_spec hS
  clear hS
  unfold get2M at hS1
  split at hS1
  · rename_i x
    simp only [spec_ok, M.getE, M.getX, M.getV] at hS1
    show Res.spec K (getSG _ h)
    rw [getSG, memF_eq H]
    simp only [getSM, spec_br, spec_ok]
    refine ⟨fun e => ⟨fun e1 => ?_, fun e1 => ?_⟩, fun e => ?_⟩
    · simpa only [e, e1, Bool.and_self, if_true] using hS1
    · simpa only [e, e1, Bool.and_false, Bool.false_eq_true, if_true, if_false] using hS1
    · simpa only [e, Bool.false_and, Bool.false_eq_true, if_false] using hS1
  · exact hS1.elim
theorem rget2_snd : Snd Try.prog 58 (FSpec.of get2G) := rgetS_snd.weaken fun args h K hc hS => by
  obtain ⟨a, b, m, rest, rfl, H, hS1⟩ := memF_spec hS
  clear hS
  unfold get2M at hS1
  split at hS1
  · rename_i x
    simp only [spec_ok, M.getE, M.getX, M.getV] at hS1
    show Res.spec K (getSG _ h)
    rw [getSG, memF_eq H]
    simp only [getSM, spec_br, spec_ok]
    refine ⟨fun e => ⟨fun e1 => ?_, fun e1 => ?_⟩, fun e => ?_⟩
    · simpa only [e, e1, Bool.and_self, if_true] using hS1
    · simpa only [e, e1, Bool.and_false, Bool.false_eq_true, if_true, if_false] using hS1
    · simpa only [e, Bool.false_and, Bool.false_eq_true, if_false] using hS1
  · exact hS1.elim
/-- Few steps. -/
theorem steps_le {n k : Int} (h0 : 0 ≤ k) (h : k ≤ 4) : IntKind.i64.wrap (IntKind.i64.wrap (n + k) - n) ≤ 4 := by
  rw [IntKind.wrap_i64, IntKind.wrap_i64]; omega
theorem steps_0 {n : Int} : IntKind.i64.wrap (n - n) ≤ 4 := by
  rw [Int.sub_self]; decide
theorem putX_steps (m : M) (a : Int) (s : Slot) : IntKind.i64.wrap ((m.putX a s).n - m.n) ≤ 4 := by
  unfold M.putX
  split
  · exact steps_le (k := 4) (by omega) (by omega)
  · exact steps_0
theorem getX_steps (m : M) (a : Int) : IntKind.i64.wrap ((m.getX a).n - m.n) ≤ 4 := by
  unfold M.getX
  split
  · exact steps_le (k := 4) (by omega) (by omega)
  · exact steps_0

end Go.Proofs.Ytdlloccodmdnnaa

/- Cspace: plain facts: what an address means. -/
namespace Go.Proofs.Ytdlloccodmdnnaa
open Go.D
set_option linter.all false
set_option maxRecDepth 100000
set_option maxHeartbeats 4000000

theorem u64_and_mask' {w : Int} (hw : u64 w) {k : Nat} (hk : k ≤ 64) {m : Int} (hm : m = ((2 ^ k - 1 : Nat) : Int)) : bits .and .u64 w m = w % (2 ^ k : Nat) := by
  obtain ⟨n, rfl, hn⟩ := hw.nat
  have hp : 2 ^ k ≤ 18446744073709551616 := by have := pow_le64 (k := 0) (n := k) (by omega); simpa using this
  rw [hm, bits_and_u64_nat n _ hn (by have := Nat.two_pow_pos k; omega), Nat.and_two_pow_sub_one_eq_mod, Int.natCast_emod]
/-- So many bits of a word, from a place on. -/
def someB (w n k : Int) : Int := w / 2 ^ n.toNat % 2 ^ k.toNat
theorem node_facts {c : Cap} (h : rightB c = true) (ht : c.ty = 2) : 1 ≤ c.bits ∧ c.bits ≤ 8 ∧ c.RB := by
  refine ⟨?_, ?_, right_bounds h⟩
  all_goals
    unfold rightB at h
    rw [if_neg (by omega), if_neg (by omega), if_pos ht] at h
    split at h
    · cases h
    · rename_i hn
      simp only [not_or, Classical.not_not, nOk_iff] at hn
      omega
theorem someB_le {w n k : Int} (hk : 0 ≤ k ∧ k ≤ 8) : 0 ≤ someB w n k ∧ someB w n k ≤ 255 := by
  unfold someB
  have h0 : ∀ j : Fin 9, (2 : Int) ^ j.val ≤ 256 := by decide
  have h2 : (2 : Int) ^ k.toNat ≤ 256 := h0 ⟨k.toNat, by omega⟩
  have h3 : (0 : Int) < 2 ^ k.toNat := Int.pow_pos (by omega)
  have := Int.emod_nonneg (w / 2 ^ n.toNat) (Int.ne_of_gt h3)
  have := Int.emod_lt_of_pos (w / 2 ^ n.toNat) h3
  omega

/-- What a lookup tells: the slot, how many bits are left, the errno; the memory behind it. -/
structure RW where
  s : Int
  l : Int
  e : Int
  m : M
def RW.v (x : RW) : V := .tup [.s (.i .i64 x.s), .s (.i .i64 x.l), .s (.i .i64 x.e)]
/-- The slot that a CNode's cap and so many bits of an address mean. -/
def wayA (w : Int) (c : Cap) (n : Int) : Int := c.obj + 4 * someB w (n - c.gbits - c.bits) c.bits
/-- The way of an address (d: the last slot is read, too). -/
def way (d : Bool) (w : Int) : Nat → M → Cap → Int → RW
  | 0, m, _, _ => ⟨0, 0, 0, m⟩
  | f + 1, m, c, n =>
    if n < c.gbits then ⟨0, 0, 102, m⟩
    else if ¬ someB w (n - c.gbits) c.gbits = c.guard then ⟨0, 0, 102, m⟩
    else if n - c.gbits < c.bits then ⟨0, 0, 101, m⟩
    else if n - c.gbits - c.bits = 0 then ⟨wayA w c n, 0, 0, if d then m.getX (wayA w c n) else m⟩
    else if m.getE (wayA w c n) = 0 ∧ (m.getV (wayA w c n)).cap.ty = 2 then way d w f (m.getX (wayA w c n)) (m.getV (wayA w c n)).cap (n - c.gbits - c.bits)
    else ⟨wayA w c n, n - c.gbits - c.bits, 0, m.getX (wayA w c n)⟩

theorem M.getE_there {m : M} {a : Int} (h : m.getE a = 0) : thereB m a = true ∧ m.slotB a = true := by
  unfold M.getE at h
  split at h
  · split at h
    · exact ⟨‹_›, ‹_›⟩
    · cases h
  · cases h
theorem M.getV_right {m : M} {a : Int} (h : m.getE a = 0) : rightB (m.getV a).cap = true := by
  obtain ⟨h1, h2⟩ := M.getE_there h
  have : m.getV a = m.slotC a := by unfold M.getV; rw [h1, h2]; rfl
  rw [this]
  simp only [M.slotB, Go.Proofs.Ytdlloccodmdnnaa.slotB, slotRB, Bool.and_eq_true] at h2
  exact h2.2.2.2.2.1

def rsl (d : Bool) (m : M) (c : Cap) (w n : Int) : RW :=
  if ¬ c.ty = 2 ∨ rightB c = false then ⟨0, 0, 100, m⟩ else if n < 1 ∨ 32 < n then ⟨0, 0, 101, m⟩ else way d w 32 m c n
theorem wayA_le {w n : Int} {c : Cap} (h : rightB c = true) (ht : c.ty = 2) : 0 ≤ wayA w c n ∧ wayA w c n ≤ 66555 := by
  obtain ⟨h1, h2, h3⟩ := node_facts h ht
  have := h3.obj
  have := someB_le (w := w) (n := n - c.gbits - c.bits) (k := c.bits) ⟨by omega, h2⟩
  unfold wayA; omega
end Go.Proofs.Ytdlloccodmdnnaa

