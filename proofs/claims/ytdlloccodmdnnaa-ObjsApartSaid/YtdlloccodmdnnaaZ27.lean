/- Package caps: sizes, bare, in, mapped. -/
import Derived.Test.YtdlloccodmdnnaaZ10
import Derived.Test.YtdlloccodmdnnaaZ26
import Derived.Test.YtdlloccodmdnnaaZ12
/- Law 08: sets, with more behind the two memories. -/
namespace Go.Proofs.Ytdlloccodmdnnaa
open Go.D
set_option linter.all false
set_option maxRecDepth 100000
set_option maxHeartbeats 8000000

theorem memHX_inj {h h' X X' : List Blk} {m m' r r' : M} (e : memH (memH h m) r ++ X = memH (memH h' m') r' ++ X') (hl : h.length = h'.length) : h = h' ∧ X = X' ∧ m = m' ∧ r = r' := by
  rw [memH2_app, memH2_app] at e
  obtain ⟨e1, e2⟩ := List.append_inj e hl
  subst e1
  simp only [List.cons_append, List.nil_append, List.cons.injEq, MB, MW, Blk.mk.injEq, S.sl.injEq, S.i.injEq, true_and, and_true] at e2
  exact ⟨rfl, e2.2.2.2.2, M.ext' (wc_inj e2.2.1.1) e2.1.2, M.ext' (wc_inj e2.2.2.2.1.1) e2.2.2.1.2⟩
open Classical in
noncomputable def twoXOf (H : List Blk) (a c : Nat) : Option (List Blk × List Blk × M × M) := if hx : ∃ x : List Blk × List Blk × M × M, H = memH (memH x.1 x.2.2.1) x.2.2.2 ++ x.2.1 ∧ a = x.1.length ∧ c = x.1.length + 2 then some (Classical.choose hx) else none
theorem twoXOf_eq (h X : List Blk) (m r : M) : twoXOf (memH (memH h m) r ++ X) h.length (h.length + 2) = some (h, X, m, r) := by
  have hx : ∃ x : List Blk × List Blk × M × M, memH (memH h m) r ++ X = memH (memH x.1 x.2.2.1) x.2.2.2 ++ x.2.1 ∧ h.length = x.1.length ∧ h.length + 2 = x.1.length + 2 := ⟨(h, X, m, r), rfl, rfl, rfl⟩
  unfold twoXOf
  rw [dif_pos hx]
  have hs := Classical.choose_spec hx
  have := memHX_inj hs.1 hs.2.1
  rw [show Classical.choose hx = (h, X, m, r) from Prod.ext this.1.symm (Prod.ext this.2.1.symm (Prod.ext this.2.2.1.symm this.2.2.2.symm))]
theorem twoXOf_some {H h X : List Blk} {a c : Nat} {m r : M} (e : twoXOf H a c = some (h, X, m, r)) : H = memH (memH h m) r ++ X ∧ a = h.length ∧ c = h.length + 2 := by
  unfold twoXOf at e
  split at e
  · rename_i hx
    have := Classical.choose_spec hx
    rw [Option.some.injEq] at e
    rw [e] at this
    exact this
  · cases e
noncomputable def twoX (f : M → M → (M → M → List Blk) → List V → Res) : List V → List Blk → Res
  | .s (.p (.g a) 0) :: .s (.p (.g c) 0) :: rest, H => match twoXOf H a c with
    | some (h, X, m, r) => f m r (fun m r => memH (memH h m) r ++ X) rest
    | none => .bad
  | _, _ => .bad
theorem twoX_spec {f : M → M → (M → M → List Blk) → List V → Res} {args : List V} {H : List Blk} {K : V → List Blk → Prop} (hS : (twoX f args H).spec K) :
    ∃ h X m r rest, args = .s (.p (.g h.length) 0) :: .s (.p (.g (h.length + 2)) 0) :: rest ∧ H = memH (memH h m) r ++ X ∧ (f m r (fun m r => memH (memH h m) r ++ X) rest).spec K := by
  unfold twoX at hS
  split at hS
  · split at hS
    · rename_i e
      obtain ⟨e1, e2, e3⟩ := twoXOf_some e
      subst e2
      subst e3
      exact ⟨_, _, _, _, _, rfl, e1, hS⟩
    · exact hS.elim
  · exact hS.elim
theorem twoX_eq {f : M → M → (M → M → List Blk) → List V → Res} {h X : List Blk} {m r : M} {rest : List V} : twoX f (.s (.p (.g h.length) 0) :: .s (.p (.g (h.length + 2)) 0) :: rest) (memH (memH h m) r ++ X) = f m r (fun m r => memH (memH h m) r ++ X) rest := by
  simp only [twoX, twoXOf_eq]
theorem twoX_eq0 {f : M → M → (M → M → List Blk) → List V → Res} {h : List Blk} {m r : M} {rest : List V} : twoX f (.s (.p (.g h.length) 0) :: .s (.p (.g (h.length + 2)) 0) :: rest) (memH (memH h m) r) = f m r (fun m r => memH (memH h m) r) rest := by
  have := twoX_eq (f := f) (h := h) (X := []) (m := m) (r := r) (rest := rest)
  simpa only [List.append_nil] using this
noncomputable def sets2M (m r : M) (st : M → M → List Blk) : List V → Res
  | [.agg cs] => match ooOf cs with
    | some o => .ob (m.w = r.w ∧ o.u ∧ o.wh ≠ 7) (.ok (.s (.b true)) [] (st (m.oX o) (r.oX o)))
    | none => .bad
  | _ => .bad
noncomputable def sets2G := twoX sets2M
noncomputable def TSX : Tab := addT 39 tsetG (addT 62 tsetG (addT 40 rgsetG (addT 63 rgsetG (addT 42 qsetG (addT 64 qsetG (addT 43 ssetG (addT 65 ssetG (addT 44 etsetG (addT 66 etsetG (addT 45 rtsetG (addT 67 rtsetG (noT))))))))))))
theorem TSX_snd : TSX.Snd Try.prog := addT_snd ok39 tset_snd' (addT_snd ok62 rtset_snd' (addT_snd ok40 rgset_snd (addT_snd ok63 rrgset_snd (addT_snd ok42 qset_snd (addT_snd ok64 rqset_snd (addT_snd ok43 sset_snd (addT_snd ok65 rsset_snd (addT_snd ok44 etset_snd (addT_snd ok66 retset_snd (addT_snd ok45 rtset_snd (addT_snd ok67 rrtset_snd ((noT_snd _)))))))))))))
theorem sets2_snd : Snd Try.prog 32 (FSpec.of sets2G) := snd_run TSX_snd mixed Try.func32 dc32 400 fun args H K hc hS => by
  obtain ⟨h, X, m, r, rest, rfl, rfl, hS1⟩ := twoX_spec hS
  clear hS
  unfold sets2M at hS1
  split at hS1
  · split at hS1
    · rename_i o e
      obtain ⟨⟨hw, ⟨u1, u2, u3, u4⟩, hne⟩, hR⟩ := hS1
      have := ooOf_some e
      subst this
      clear e
      obtain ⟨wh, ad, i, w, t, q, s, x, tb, hl⟩ := o
      obtain ⟨s1, s2, s3⟩ := q
      obtain ⟨k1, k2, k3, k4, k5⟩ := s
      obtain ⟨x1, x2, x3, x4⟩ := x
      obtain ⟨a, b, c, d, e, f, g, ii, j, k, l, n, o, p, rg⟩ := t
      obtain ⟨a0, a1, a2, a3, a4, a5, a6, a7, a8, a9, b0, b1, b2, b3, b4, b5, rfl⟩ := rg16 hl
      simp only [spec_ok, M.oX] at hR u1 u2 u3 u4 hne
      simp only [Oo.cl, Th.c, Qu.cl, Si.cl, En.c, wc_cons, wc_nil, List.cons_append, List.nil_append]
      by_cases h1 : wh = 1
      · subst h1
        simp only [if_true] at hR
        have hE := thE_w hw ad ⟨a, b, c, d, e, f, g, ii, j, k, l, n, o, p, [a0, a1, a2, a3, a4, a5, a6, a7, a8, a9, b0, b1, b2, b3, b4, b5]⟩
        simp (config := { maxSteps := 10000000 }) only [run_drx, run_xd, run_xq, run_xg, run_xb, EV1, EV2, EV3, EV4, EV5, EV6, addT, istep, lenR_sl, lenR_ns, lenR_es, pickR, putD, bin1R, un1R, slcR, bnd, capsOf, fillP, S_plain, V_plain, V.cells, S_known, V_known, C.v, blk, setL, setH, eqS, eq1, cmpS, cmp1, isNil, popTo, killT, setT, leT, V.below, C.below, S_below, R.below, V.val, C.val, S_val, R.val, R.takes, vals, shows, List.any_cons, List.any_nil, unnamed, V.kill, V.names, C.names, S_names, R.names, List.set, List.replicate, ↓q_cond_t, ↓q_cond_f, if_true, if_false, reduceCtorEq, rvals, rvC, result, C_known, V.noL, C.noL, S_noL, R.noL, Option.map, true_and, and_true, ge_iff_le, gt_iff_lt, implies_true, q_ite_t, q_ite_f, beq_iff_eq, bne_iff_ne, q_ne, Nat.reduceAdd, Nat.reducePow, Int.reducePow, Nat.reduceMul, Nat.reduceSub, Nat.reduceLeDiff, Nat.reduceLT, Nat.reduceEqDiff, Int.reduceNeg, Int.reduceLT, Int.reduceLE, Int.reduceEq, Int.reduceNe, Int.reduceAdd, Int.reduceSub, Int.reduceMul, Int.reduceToNat, Int.reduceBEq, Int.reduceBNe, df32, TSX, tsetG, memF_new1A, memF_new2A, tsetM, thF, unwc_cons, unwc_nil, List.length_cons, List.length_nil, u2, hE, put, fillP, sub, List.take_succ_cons, List.take_zero, List.drop_zero, List.drop_succ_cons]
        exact ⟨u2.2, u2.2, hR⟩
      by_cases h2 : wh = 2
      · subst h2
        simp only [Int.reduceEq, if_true, if_false] at hR
        have hE := rgE_w hw ad i
        simp (config := { maxSteps := 10000000 }) only [run_drx, run_xd, run_xq, run_xg, run_xb, EV1, EV2, EV3, EV4, EV5, EV6, addT, istep, lenR_sl, lenR_ns, lenR_es, pickR, putD, bin1R, un1R, slcR, bnd, capsOf, fillP, S_plain, V_plain, V.cells, S_known, V_known, C.v, blk, setL, setH, eqS, eq1, cmpS, cmp1, isNil, popTo, killT, setT, leT, V.below, C.below, S_below, R.below, V.val, C.val, S_val, R.val, R.takes, vals, shows, List.any_cons, List.any_nil, unnamed, V.kill, V.names, C.names, S_names, R.names, List.set, List.replicate, ↓q_cond_t, ↓q_cond_f, if_true, if_false, reduceCtorEq, rvals, rvC, result, C_known, V.noL, C.noL, S_noL, R.noL, Option.map, true_and, and_true, ge_iff_le, gt_iff_lt, implies_true, q_ite_t, q_ite_f, beq_iff_eq, bne_iff_ne, q_ne, Nat.reduceAdd, Nat.reducePow, Int.reducePow, Nat.reduceMul, Nat.reduceSub, Nat.reduceLeDiff, Nat.reduceLT, Nat.reduceEqDiff, Int.reduceNeg, Int.reduceLT, Int.reduceLE, Int.reduceEq, Int.reduceNe, Int.reduceAdd, Int.reduceSub, Int.reduceMul, Int.reduceToNat, Int.reduceBEq, Int.reduceBNe, df32, TSX, rgsetG, memF_new1A, memF_new2A, rgsetM, u1, hE, put, fillP, sub, List.take_succ_cons, List.take_zero, List.drop_zero, List.drop_succ_cons]
        exact hR
      by_cases h3 : wh = 3
      · subst h3
        simp only [Int.reduceEq, if_true, if_false] at hR
        have hE := qsE_w hw ad ⟨s1, s2, s3⟩
        simp (config := { maxSteps := 10000000 }) only [run_drx, run_xd, run_xq, run_xg, run_xb, EV1, EV2, EV3, EV4, EV5, EV6, addT, istep, lenR_sl, lenR_ns, lenR_es, pickR, putD, bin1R, un1R, slcR, bnd, capsOf, fillP, S_plain, V_plain, V.cells, S_known, V_known, C.v, blk, setL, setH, eqS, eq1, cmpS, cmp1, isNil, popTo, killT, setT, leT, V.below, C.below, S_below, R.below, V.val, C.val, S_val, R.val, R.takes, vals, shows, List.any_cons, List.any_nil, unnamed, V.kill, V.names, C.names, S_names, R.names, List.set, List.replicate, ↓q_cond_t, ↓q_cond_f, if_true, if_false, reduceCtorEq, rvals, rvC, result, C_known, V.noL, C.noL, S_noL, R.noL, Option.map, true_and, and_true, ge_iff_le, gt_iff_lt, implies_true, q_ite_t, q_ite_f, beq_iff_eq, bne_iff_ne, q_ne, Nat.reduceAdd, Nat.reducePow, Int.reducePow, Nat.reduceMul, Nat.reduceSub, Nat.reduceLeDiff, Nat.reduceLT, Nat.reduceEqDiff, Int.reduceNeg, Int.reduceLT, Int.reduceLE, Int.reduceEq, Int.reduceNe, Int.reduceAdd, Int.reduceSub, Int.reduceMul, Int.reduceToNat, Int.reduceBEq, Int.reduceBNe, df32, TSX, qsetG, memF_new1A, memF_new2A, qsetM, quF, u3, hE, put, fillP, sub, List.take_succ_cons, List.take_zero, List.drop_zero, List.drop_succ_cons]
        exact hR
      by_cases h4 : wh = 4
      · subst h4
        simp only [Int.reduceEq, if_true, if_false] at hR
        have hE := ssE_w hw ad ⟨k1, k2, k3, k4, k5⟩
        simp (config := { maxSteps := 10000000 }) only [run_drx, run_xd, run_xq, run_xg, run_xb, EV1, EV2, EV3, EV4, EV5, EV6, addT, istep, lenR_sl, lenR_ns, lenR_es, pickR, putD, bin1R, un1R, slcR, bnd, capsOf, fillP, S_plain, V_plain, V.cells, S_known, V_known, C.v, blk, setL, setH, eqS, eq1, cmpS, cmp1, isNil, popTo, killT, setT, leT, V.below, C.below, S_below, R.below, V.val, C.val, S_val, R.val, R.takes, vals, shows, List.any_cons, List.any_nil, unnamed, V.kill, V.names, C.names, S_names, R.names, List.set, List.replicate, ↓q_cond_t, ↓q_cond_f, if_true, if_false, reduceCtorEq, rvals, rvC, result, C_known, V.noL, C.noL, S_noL, R.noL, Option.map, true_and, and_true, ge_iff_le, gt_iff_lt, implies_true, q_ite_t, q_ite_f, beq_iff_eq, bne_iff_ne, q_ne, Nat.reduceAdd, Nat.reducePow, Int.reducePow, Nat.reduceMul, Nat.reduceSub, Nat.reduceLeDiff, Nat.reduceLT, Nat.reduceEqDiff, Int.reduceNeg, Int.reduceLT, Int.reduceLE, Int.reduceEq, Int.reduceNe, Int.reduceAdd, Int.reduceSub, Int.reduceMul, Int.reduceToNat, Int.reduceBEq, Int.reduceBNe, df32, TSX, ssetG, memF_new1A, memF_new2A, ssetM, siF, u4, hE, put, fillP, sub, List.take_succ_cons, List.take_zero, List.drop_zero, List.drop_succ_cons]
        exact hR
      by_cases h5 : wh = 5
      · subst h5
        simp only [Int.reduceEq, if_true, if_false] at hR
        have hE := esE_w hw ad i ⟨x1, x2, x3, x4⟩
        simp (config := { maxSteps := 10000000 }) only [run_drx, run_xd, run_xq, run_xg, run_xb, EV1, EV2, EV3, EV4, EV5, EV6, addT, istep, lenR_sl, lenR_ns, lenR_es, pickR, putD, bin1R, un1R, slcR, bnd, capsOf, fillP, S_plain, V_plain, V.cells, S_known, V_known, C.v, blk, setL, setH, eqS, eq1, cmpS, cmp1, isNil, popTo, killT, setT, leT, V.below, C.below, S_below, R.below, V.val, C.val, S_val, R.val, R.takes, vals, shows, List.any_cons, List.any_nil, unnamed, V.kill, V.names, C.names, S_names, R.names, List.set, List.replicate, ↓q_cond_t, ↓q_cond_f, if_true, if_false, reduceCtorEq, rvals, rvC, result, C_known, V.noL, C.noL, S_noL, R.noL, Option.map, true_and, and_true, ge_iff_le, gt_iff_lt, implies_true, q_ite_t, q_ite_f, beq_iff_eq, bne_iff_ne, q_ne, Nat.reduceAdd, Nat.reducePow, Int.reducePow, Nat.reduceMul, Nat.reduceSub, Nat.reduceLeDiff, Nat.reduceLT, Nat.reduceEqDiff, Int.reduceNeg, Int.reduceLT, Int.reduceLE, Int.reduceEq, Int.reduceNe, Int.reduceAdd, Int.reduceSub, Int.reduceMul, Int.reduceToNat, Int.reduceBEq, Int.reduceBNe, df32, TSX, etsetG, memF_new1A, memF_new2A, etsetM, enF, hE, put, fillP, sub, List.take_succ_cons, List.take_zero, List.drop_zero, List.drop_succ_cons]
        exact hR
      by_cases h6 : wh = 6
      · subst h6
        simp only [Int.reduceEq, if_true, if_false] at hR
        have hE := tsE_w hw ad i tb
        simp (config := { maxSteps := 10000000 }) only [run_drx, run_xd, run_xq, run_xg, run_xb, EV1, EV2, EV3, EV4, EV5, EV6, addT, istep, lenR_sl, lenR_ns, lenR_es, pickR, putD, bin1R, un1R, slcR, bnd, capsOf, fillP, S_plain, V_plain, V.cells, S_known, V_known, C.v, blk, setL, setH, eqS, eq1, cmpS, cmp1, isNil, popTo, killT, setT, leT, V.below, C.below, S_below, R.below, V.val, C.val, S_val, R.val, R.takes, vals, shows, List.any_cons, List.any_nil, unnamed, V.kill, V.names, C.names, S_names, R.names, List.set, List.replicate, ↓q_cond_t, ↓q_cond_f, if_true, if_false, reduceCtorEq, rvals, rvC, result, C_known, V.noL, C.noL, S_noL, R.noL, Option.map, true_and, and_true, ge_iff_le, gt_iff_lt, implies_true, q_ite_t, q_ite_f, beq_iff_eq, bne_iff_ne, q_ne, Nat.reduceAdd, Nat.reducePow, Int.reducePow, Nat.reduceMul, Nat.reduceSub, Nat.reduceLeDiff, Nat.reduceLT, Nat.reduceEqDiff, Int.reduceNeg, Int.reduceLT, Int.reduceLE, Int.reduceEq, Int.reduceNe, Int.reduceAdd, Int.reduceSub, Int.reduceMul, Int.reduceToNat, Int.reduceBEq, Int.reduceBNe, df32, TSX, rtsetG, memF_new1A, memF_new2A, rtsetM, hE, put, fillP, sub, List.take_succ_cons, List.take_zero, List.drop_zero, List.drop_succ_cons]
        exact hR
      have h7 := hne
      rw [if_neg h1, if_neg h2, if_neg h3, if_neg h4, if_neg h5, if_neg h6, if_neg h7, if_neg h1, if_neg h2, if_neg h3, if_neg h4, if_neg h5, if_neg h6, if_neg h7] at hR
      simp (config := { maxSteps := 10000000 }) only [run_drx, run_xd, run_xq, run_xg, run_xb, EV1, EV2, EV3, EV4, EV5, EV6, addT, istep, lenR_sl, lenR_ns, lenR_es, pickR, putD, bin1R, un1R, slcR, bnd, capsOf, fillP, S_plain, V_plain, V.cells, S_known, V_known, C.v, blk, setL, setH, eqS, eq1, cmpS, cmp1, isNil, popTo, killT, setT, leT, V.below, C.below, S_below, R.below, V.val, C.val, S_val, R.val, R.takes, vals, shows, List.any_cons, List.any_nil, unnamed, V.kill, V.names, C.names, S_names, R.names, List.set, List.replicate, ↓q_cond_t, ↓q_cond_f, if_true, if_false, reduceCtorEq, rvals, rvC, result, C_known, V.noL, C.noL, S_noL, R.noL, Option.map, true_and, and_true, ge_iff_le, gt_iff_lt, implies_true, q_ite_t, q_ite_f, beq_iff_eq, bne_iff_ne, q_ne, Nat.reduceAdd, Nat.reducePow, Int.reducePow, Nat.reduceMul, Nat.reduceSub, Nat.reduceLeDiff, Nat.reduceLT, Nat.reduceEqDiff, Int.reduceNeg, Int.reduceLT, Int.reduceLE, Int.reduceEq, Int.reduceNe, Int.reduceAdd, Int.reduceSub, Int.reduceMul, Int.reduceToNat, Int.reduceBEq, Int.reduceBNe, df32, h1, h2, h3, h4, h5, h6, h7, put, fillP, sub, List.take_succ_cons, List.take_zero, List.drop_zero, List.drop_succ_cons]
      exact hR
    · exact hS1.elim
  · exact hS1.elim

/-! ### words -/
def wds (n : Int) : Int := if n = 1 ∨ n = 2 then 64 else if n = 3 then 4 else if n = 4 ∨ n = 5 ∨ n = 6 then 8 else 0
def wdsG : List V → List Blk → Res
  | [.s (.i .i64 n)], h => .ok (.s (.i .i64 (wds n))) [] h
  | _, _ => .bad
theorem wds_snd : Snd Try.prog 31 (FSpec.of wdsG) := snd_run (noT_snd _) mixed Try.func31 dc31 100 fun args h K hc hS => by
  unfold wdsG at hS
  split at hS
  · rename_i n
    simp only [spec_ok, wds] at hS
    by_cases h1 : n = 1
    · subst h1
      simp (config := { maxSteps := 10000000 }) only [run_drx, run_xd, run_xq, run_xg, run_xb, EV1, EV2, EV3, EV4, EV5, EV6, addT, istep, lenR_sl, lenR_ns, lenR_es, pickR, putD, bin1R, un1R, slcR, bnd, capsOf, fillP, S_plain, V_plain, V.cells, S_known, V_known, C.v, blk, setL, setH, eqS, eq1, cmpS, cmp1, isNil, popTo, killT, setT, leT, V.below, C.below, S_below, R.below, V.val, C.val, S_val, R.val, R.takes, vals, shows, List.any_cons, List.any_nil, unnamed, V.kill, V.names, C.names, S_names, R.names, List.set, List.replicate, ↓q_cond_t, ↓q_cond_f, if_true, if_false, reduceCtorEq, rvals, rvC, result, C_known, V.noL, C.noL, S_noL, R.noL, Option.map, true_and, and_true, ge_iff_le, gt_iff_lt, implies_true, q_ite_t, q_ite_f, beq_iff_eq, bne_iff_ne, q_ne, Nat.reduceAdd, Nat.reducePow, Int.reducePow, Nat.reduceMul, Nat.reduceSub, Nat.reduceLeDiff, Nat.reduceLT, Nat.reduceEqDiff, Int.reduceNeg, Int.reduceLT, Int.reduceLE, Int.reduceEq, Int.reduceNe, Int.reduceAdd, Int.reduceSub, Int.reduceMul, Int.reduceToNat, Int.reduceBEq, Int.reduceBNe, df31]
      exact hS
    by_cases h2 : n = 2
    · subst h2
      simp (config := { maxSteps := 10000000 }) only [run_drx, run_xd, run_xq, run_xg, run_xb, EV1, EV2, EV3, EV4, EV5, EV6, addT, istep, lenR_sl, lenR_ns, lenR_es, pickR, putD, bin1R, un1R, slcR, bnd, capsOf, fillP, S_plain, V_plain, V.cells, S_known, V_known, C.v, blk, setL, setH, eqS, eq1, cmpS, cmp1, isNil, popTo, killT, setT, leT, V.below, C.below, S_below, R.below, V.val, C.val, S_val, R.val, R.takes, vals, shows, List.any_cons, List.any_nil, unnamed, V.kill, V.names, C.names, S_names, R.names, List.set, List.replicate, ↓q_cond_t, ↓q_cond_f, if_true, if_false, reduceCtorEq, rvals, rvC, result, C_known, V.noL, C.noL, S_noL, R.noL, Option.map, true_and, and_true, ge_iff_le, gt_iff_lt, implies_true, q_ite_t, q_ite_f, beq_iff_eq, bne_iff_ne, q_ne, Nat.reduceAdd, Nat.reducePow, Int.reducePow, Nat.reduceMul, Nat.reduceSub, Nat.reduceLeDiff, Nat.reduceLT, Nat.reduceEqDiff, Int.reduceNeg, Int.reduceLT, Int.reduceLE, Int.reduceEq, Int.reduceNe, Int.reduceAdd, Int.reduceSub, Int.reduceMul, Int.reduceToNat, Int.reduceBEq, Int.reduceBNe, df31]
      exact hS
    by_cases h3 : n = 3
    · subst h3
      simp (config := { maxSteps := 10000000 }) only [run_drx, run_xd, run_xq, run_xg, run_xb, EV1, EV2, EV3, EV4, EV5, EV6, addT, istep, lenR_sl, lenR_ns, lenR_es, pickR, putD, bin1R, un1R, slcR, bnd, capsOf, fillP, S_plain, V_plain, V.cells, S_known, V_known, C.v, blk, setL, setH, eqS, eq1, cmpS, cmp1, isNil, popTo, killT, setT, leT, V.below, C.below, S_below, R.below, V.val, C.val, S_val, R.val, R.takes, vals, shows, List.any_cons, List.any_nil, unnamed, V.kill, V.names, C.names, S_names, R.names, List.set, List.replicate, ↓q_cond_t, ↓q_cond_f, if_true, if_false, reduceCtorEq, rvals, rvC, result, C_known, V.noL, C.noL, S_noL, R.noL, Option.map, true_and, and_true, ge_iff_le, gt_iff_lt, implies_true, q_ite_t, q_ite_f, beq_iff_eq, bne_iff_ne, q_ne, Nat.reduceAdd, Nat.reducePow, Int.reducePow, Nat.reduceMul, Nat.reduceSub, Nat.reduceLeDiff, Nat.reduceLT, Nat.reduceEqDiff, Int.reduceNeg, Int.reduceLT, Int.reduceLE, Int.reduceEq, Int.reduceNe, Int.reduceAdd, Int.reduceSub, Int.reduceMul, Int.reduceToNat, Int.reduceBEq, Int.reduceBNe, df31]
      exact hS
    by_cases h4 : n = 4
    · subst h4
      simp (config := { maxSteps := 10000000 }) only [run_drx, run_xd, run_xq, run_xg, run_xb, EV1, EV2, EV3, EV4, EV5, EV6, addT, istep, lenR_sl, lenR_ns, lenR_es, pickR, putD, bin1R, un1R, slcR, bnd, capsOf, fillP, S_plain, V_plain, V.cells, S_known, V_known, C.v, blk, setL, setH, eqS, eq1, cmpS, cmp1, isNil, popTo, killT, setT, leT, V.below, C.below, S_below, R.below, V.val, C.val, S_val, R.val, R.takes, vals, shows, List.any_cons, List.any_nil, unnamed, V.kill, V.names, C.names, S_names, R.names, List.set, List.replicate, ↓q_cond_t, ↓q_cond_f, if_true, if_false, reduceCtorEq, rvals, rvC, result, C_known, V.noL, C.noL, S_noL, R.noL, Option.map, true_and, and_true, ge_iff_le, gt_iff_lt, implies_true, q_ite_t, q_ite_f, beq_iff_eq, bne_iff_ne, q_ne, Nat.reduceAdd, Nat.reducePow, Int.reducePow, Nat.reduceMul, Nat.reduceSub, Nat.reduceLeDiff, Nat.reduceLT, Nat.reduceEqDiff, Int.reduceNeg, Int.reduceLT, Int.reduceLE, Int.reduceEq, Int.reduceNe, Int.reduceAdd, Int.reduceSub, Int.reduceMul, Int.reduceToNat, Int.reduceBEq, Int.reduceBNe, df31]
      exact hS
    by_cases h5 : n = 5
    · subst h5
      simp (config := { maxSteps := 10000000 }) only [run_drx, run_xd, run_xq, run_xg, run_xb, EV1, EV2, EV3, EV4, EV5, EV6, addT, istep, lenR_sl, lenR_ns, lenR_es, pickR, putD, bin1R, un1R, slcR, bnd, capsOf, fillP, S_plain, V_plain, V.cells, S_known, V_known, C.v, blk, setL, setH, eqS, eq1, cmpS, cmp1, isNil, popTo, killT, setT, leT, V.below, C.below, S_below, R.below, V.val, C.val, S_val, R.val, R.takes, vals, shows, List.any_cons, List.any_nil, unnamed, V.kill, V.names, C.names, S_names, R.names, List.set, List.replicate, ↓q_cond_t, ↓q_cond_f, if_true, if_false, reduceCtorEq, rvals, rvC, result, C_known, V.noL, C.noL, S_noL, R.noL, Option.map, true_and, and_true, ge_iff_le, gt_iff_lt, implies_true, q_ite_t, q_ite_f, beq_iff_eq, bne_iff_ne, q_ne, Nat.reduceAdd, Nat.reducePow, Int.reducePow, Nat.reduceMul, Nat.reduceSub, Nat.reduceLeDiff, Nat.reduceLT, Nat.reduceEqDiff, Int.reduceNeg, Int.reduceLT, Int.reduceLE, Int.reduceEq, Int.reduceNe, Int.reduceAdd, Int.reduceSub, Int.reduceMul, Int.reduceToNat, Int.reduceBEq, Int.reduceBNe, df31]
      exact hS
    by_cases h6 : n = 6
    · subst h6
      simp (config := { maxSteps := 10000000 }) only [run_drx, run_xd, run_xq, run_xg, run_xb, EV1, EV2, EV3, EV4, EV5, EV6, addT, istep, lenR_sl, lenR_ns, lenR_es, pickR, putD, bin1R, un1R, slcR, bnd, capsOf, fillP, S_plain, V_plain, V.cells, S_known, V_known, C.v, blk, setL, setH, eqS, eq1, cmpS, cmp1, isNil, popTo, killT, setT, leT, V.below, C.below, S_below, R.below, V.val, C.val, S_val, R.val, R.takes, vals, shows, List.any_cons, List.any_nil, unnamed, V.kill, V.names, C.names, S_names, R.names, List.set, List.replicate, ↓q_cond_t, ↓q_cond_f, if_true, if_false, reduceCtorEq, rvals, rvC, result, C_known, V.noL, C.noL, S_noL, R.noL, Option.map, true_and, and_true, ge_iff_le, gt_iff_lt, implies_true, q_ite_t, q_ite_f, beq_iff_eq, bne_iff_ne, q_ne, Nat.reduceAdd, Nat.reducePow, Int.reducePow, Nat.reduceMul, Nat.reduceSub, Nat.reduceLeDiff, Nat.reduceLT, Nat.reduceEqDiff, Int.reduceNeg, Int.reduceLT, Int.reduceLE, Int.reduceEq, Int.reduceNe, Int.reduceAdd, Int.reduceSub, Int.reduceMul, Int.reduceToNat, Int.reduceBEq, Int.reduceBNe, df31]
      exact hS
    rw [if_neg (by omega), if_neg h3, if_neg (by omega)] at hS
    simp (config := { maxSteps := 10000000 }) only [run_drx, run_xd, run_xq, run_xg, run_xb, EV1, EV2, EV3, EV4, EV5, EV6, addT, istep, lenR_sl, lenR_ns, lenR_es, pickR, putD, bin1R, un1R, slcR, bnd, capsOf, fillP, S_plain, V_plain, V.cells, S_known, V_known, C.v, blk, setL, setH, eqS, eq1, cmpS, cmp1, isNil, popTo, killT, setT, leT, V.below, C.below, S_below, R.below, V.val, C.val, S_val, R.val, R.takes, vals, shows, List.any_cons, List.any_nil, unnamed, V.kill, V.names, C.names, S_names, R.names, List.set, List.replicate, ↓q_cond_t, ↓q_cond_f, if_true, if_false, reduceCtorEq, rvals, rvC, result, C_known, V.noL, C.noL, S_noL, R.noL, Option.map, true_and, and_true, ge_iff_le, gt_iff_lt, implies_true, q_ite_t, q_ite_f, beq_iff_eq, bne_iff_ne, q_ne, Nat.reduceAdd, Nat.reducePow, Int.reducePow, Nat.reduceMul, Nat.reduceSub, Nat.reduceLeDiff, Nat.reduceLT, Nat.reduceEqDiff, Int.reduceNeg, Int.reduceLT, Int.reduceLE, Int.reduceEq, Int.reduceNe, Int.reduceAdd, Int.reduceSub, Int.reduceMul, Int.reduceToNat, Int.reduceBEq, Int.reduceBNe, df31, h1, h2, h3, h4, h5, h6]
    exact hS
  · exact hS.elim
theorem pl_in {m : M} {a k i hi : Int} (h : (plE m a k i hi == 0) = true) : 1024 ≤ a ∧ a % k = 0 ∧ a + k ≤ m.w.length ∧ 0 ≤ i ∧ i ≤ hi := by
  rw [beq_iff_eq] at h
  unfold plE at h
  cases e : otB m a k
  · rw [e] at h; cases h
  · rw [e, cond_true] at h
    have e1 := otB_iff.1 e
    cases f : in3 i 0 hi
    · rw [f] at h; cases h
    · have f1 := in3_iff.1 f
      exact ⟨e1.1, e1.2.1, e1.2.2, f1⟩
/-- No word beside the object changes. -/
theorem put_at {m : M} {i : Nat} {x : Int} {j : Nat} (h : i ≠ j) : (m.put i x).at j = m.at j := by
  rw [M.at_put, if_neg (by omega)]
theorem wrs_out (m : M) (o : Nat) (ws : List Int) (j : Nat) : ∀ k, (j < o ∨ o + k ≤ j) → (m.wrs o ws k).at j = m.at j
  | 0, _ => rfl
  | k + 1, h => by rw [M.wrs, M.at_tick, put_at (by omega), wrs_out m o ws j k (by omega)]
theorem oX_out (m : M) (p : Oo) (j : Nat) (hp : p.wh ≠ 7) (hj : ¬ (p.ad ≤ j ∧ (j : Int) < p.ad + wds p.wh)) : (m.oX p).at j = m.at j := by
  unfold M.oX
  by_cases h1 : p.wh = 1
  · rw [if_pos h1]
    rw [wds, if_pos (.inl h1)] at hj
    unfold M.thX
    split
    · rename_i e
      rw [Bool.and_eq_true, otB_iff] at e
      rw [wrs_out _ _ _ _ _ (by omega), wrs_out _ _ _ _ _ (by omega)]
    · rfl
  rw [if_neg h1]
  by_cases h2 : p.wh = 2
  · rw [if_pos h2]
    rw [wds, if_pos (.inr h2)] at hj
    unfold M.rsX
    cases e : (plE m p.ad 64 p.i 15 == 0)
    · rfl
    · have e2 := pl_in e
      rw [cond_true, M.at_tick, put_at (by omega)]
  rw [if_neg h2]
  by_cases h3 : p.wh = 3
  · rw [if_pos h3]
    rw [wds, if_neg (by omega), if_pos h3] at hj
    unfold M.qsX
    split
    · rename_i e
      rw [Bool.and_eq_true, otB_iff] at e
      rw [M.at_tick, put_at (by omega)]
    · rfl
  rw [if_neg h3]
  by_cases h4 : p.wh = 4
  · rw [if_pos h4]
    rw [wds, if_neg (by omega), if_neg h3, if_pos (by omega)] at hj
    unfold M.ssX
    split
    · rename_i e
      rw [Bool.and_eq_true, otB_iff] at e
      rw [M.at_tick, put_at (by omega), M.at_tick, put_at (by omega)]
    · rfl
  rw [if_neg h4]
  by_cases h5 : p.wh = 5
  · rw [if_pos h5]
    rw [wds, if_neg (by omega), if_neg h3, if_pos (by omega)] at hj
    unfold M.esX
    cases e : (plE m p.ad 8 p.i 7 == 0 && p.e.may)
    · rfl
    · rw [Bool.and_eq_true] at e
      have e2 := pl_in e.1
      rw [cond_true, M.at_tick, put_at (by omega)]
  rw [if_neg h5]
  by_cases h6 : p.wh = 6
  · rw [if_pos h6]
    rw [wds, if_neg (by omega), if_neg h3, if_pos (by omega)] at hj
    unfold M.tsX
    cases e : (plE m p.ad 8 p.i 7 == 0 && rootB p.tb)
    · rfl
    · rw [Bool.and_eq_true] at e
      have e2 := pl_in e.1
      rw [cond_true, M.at_tick, put_at (by omega)]
  rw [if_neg h6, if_neg hp]
end Go.Proofs.Ytdlloccodmdnnaa

/- Law 08: ObjsApart: the walk. -/
namespace Go.Proofs.Ytdlloccodmdnnaa
open Go.D
set_option linter.all false
set_option maxRecDepth 100000
set_option maxHeartbeats 8000000

theorem oo_known (o : Oo) : known o.cl = true := by
  have := wc_known o.t.rg
  simp only [known] at this
  simp [known, Oo.cl, Th.c, Qu.cl, Si.cl, En.c, this]
theorem oo_noL (o : Oo) : o.cl.all S.noL = true := by
  have : (wc o.t.rg).all S.noL = true := wc_all (fun _ => rfl) _
  simp [Oo.cl, Th.c, Qu.cl, Si.cl, En.c, this, S.noL]
noncomputable def objsApartG : List V → List Blk → Res
  | [.agg a, .agg b], h => match ooOf a, ooOf b with
    | some o, some p => .ob (o.u ∧ p.u) (.ok (.s (.b true)) [] h)
    | _, _ => .bad
  | _, _ => .bad
theorem objsApart_law' {h : List Blk} {K : V → List Blk → Prop} {o p : Oo} (ho : o.u) (hp : p.u) (hS : K (.s (.b true)) h) : (objsApartG [.agg o.cl, .agg p.cl] h).spec K := by
  simp only [objsApartG, ooOf_eq]
  exact ⟨⟨ho, hp⟩, hS⟩
noncomputable def TAp : Tab := addT 28 awake8G (addT 29 newM (addT 30 newM (addT 31 wdsG (addT 32 sets2G (addT 26 dumpG (addT 27 sameWG (noT)))))))
theorem TAp_snd : TAp.Snd Try.prog := addT_snd ok28 awake8_snd (addT_snd ok29 new_snd (addT_snd ok30 rnew_snd (addT_snd ok31 wds_snd (addT_snd ok32 sets2_snd (addT_snd ok26 mdump_snd (addT_snd ok27 sameW_snd ((noT_snd _))))))))
theorem wds_le (n : Int) : 0 ≤ wds n ∧ wds n ≤ 64 := by unfold wds; split; decide; split; decide; split <;> decide
theorem listOf_n8 (H : List Blk) : listOf H .ns = some [] := listOf_eq (.inl ⟨.inl rfl, rfl⟩)
theorem cut_2 {h X : List Blk} {K : V → List Blk → Prop} {v : V} {m r : M} (hc : clean h.length h = true) (hv : v = .s (.b true)) (hK : K (.s (.b true)) h) : Cut h.length K v (memH (memH h m) r ++ X) := by
  subst hv
  rw [memH2_app]; exact cut_app (Nat.le_refl _) hc rfl hK
theorem cut_20 {h : List Blk} {K : V → List Blk → Prop} {v : V} {m r : M} (hc : clean h.length h = true) (hv : v = .s (.b true)) (hK : K (.s (.b true)) h) : Cut h.length K v (memH (memH h m) r) := by
  have := cut_2 (X := []) (m := m) (r := r) hc hv hK
  rwa [List.append_nil] at this
theorem objsApart_snd : Snd Try.prog 9 (FSpec.of objsApartG) := snd_cut TAp_snd mixed Try.func9 dc9 400 fun args h K hc hS => by
  unfold objsApartG at hS
  split at hS
  · split at hS
    · rename_i o p eo ep
      obtain ⟨⟨ho, hp⟩, hS⟩ := hS
      simp only [spec_ok] at hS
      have := ooOf_some eo
      subst this
      have := ooOf_some ep
      subst this
      clear eo ep
      have k1 := oo_known o
      have k2 := oo_known p
      have k3 := oo_noL o
      have k4 := oo_noL p
      have k5 := Oo.cl_len o
      have k6 := Oo.cl_len p
      have k7 : List.take 47 o.cl = o.cl := List.take_of_length_le (by omega)
      have k8 : List.take 47 p.cl = p.cl := List.take_of_length_le (by omega)
      have g1 : o.cl[0]? = some (.i .i64 o.wh) := rfl
      have g2 : o.cl[1]? = some (.i .i64 o.ad) := rfl
      have g3 : p.cl[0]? = some (.i .i64 p.wh) := rfl
      have g4 : p.cl[1]? = some (.i .i64 p.ad) := rfl
      obtain ⟨m0, hm⟩ : ∃ m, M.zero 12 = m := ⟨_, rfl⟩
      have l0 : m0.w.length = 4096 := by rw [← hm]; exact M.zero_len 12
      have wo := wds_le o.wh
      have wp := wds_le p.wh
      obtain ⟨A, hA⟩ : ∃ n, wds o.wh = n := ⟨_, rfl⟩
      obtain ⟨B, hB⟩ : ∃ n, wds p.wh = n := ⟨_, rfl⟩
      rw [hA] at wo
      rw [hB] at wp
      simp (config := { maxSteps := 10000000 }) only [run_drx, run_xd, run_xq, run_xg, run_xb, EV1, EV2, EV3, EV4, EV5, EV6, addT, istep, lenR_sl, lenR_ns, lenR_es, pickR, putD, bin1R, un1R, slcR, bnd, capsOf, fillP, S_plain, V_plain, V.cells, S_known, V_known, C.v, blk, setL, setH, eqS, eq1, cmpS, cmp1, isNil, popTo, killT, setT, leT, V.below, C.below, S_below, R.below, V.val, C.val, S_val, R.val, R.takes, vals, shows, List.any_cons, List.any_nil, unnamed, V.kill, V.names, C.names, S_names, R.names, List.set, List.replicate, ↓q_cond_t, ↓q_cond_f, if_true, if_false, reduceCtorEq, rvals, rvC, result, C_known, V.noL, C.noL, S_noL, R.noL, Option.map, true_and, and_true, ge_iff_le, gt_iff_lt, implies_true, q_ite_t, q_ite_f, beq_iff_eq, bne_iff_ne, q_ne, Nat.reduceAdd, Nat.reducePow, Int.reducePow, Nat.reduceMul, Nat.reduceSub, Nat.reduceLeDiff, Nat.reduceLT, Nat.reduceEqDiff, Int.reduceNeg, Int.reduceLT, Int.reduceLE, Int.reduceEq, Int.reduceNe, Int.reduceAdd, Int.reduceSub, Int.reduceMul, Int.reduceToNat, Int.reduceBEq, Int.reduceBNe, df9, TAp, awake8G, newM, hm, memH_len, wdsG, hA, hB, k1, k2, k3, k4, k5, k6, k7, k8, g1, g2, g3, g4, sub, List.drop_zero]
      refine ⟨fun _ => cut_20 hc rfl hS, fun hn => ?_⟩
      have n1 : ¬ A = 0 := fun e => hn (.inl e)
      have n2 : ¬ B = 0 := fun e => hn (.inr (.inl e))
      have n3 : ¬ o.ad < 0 := fun e => hn (.inr (.inr (.inl e)))
      have n4 : ¬ p.ad < 0 := fun e => hn (.inr (.inr (.inr (.inl e))))
      have n5 : ¬ 4096 < o.ad := fun e => hn (.inr (.inr (.inr (.inr (.inl e)))))
      have n6 : ¬ 4096 < p.ad := fun e => hn (.inr (.inr (.inr (.inr (.inr (.inl e))))))
      have n7 : ¬ (o.ad < p.ad + B ∧ p.ad < o.ad + A) := fun e => hn (.inr (.inr (.inr (.inr (.inr (.inr ⟨by rw [wrap64 (by omega) (by omega)]; exact e.1, by rw [wrap64 (by omega) (by omega)]; exact e.2⟩))))))
      have q7 : wds 7 = 0 := by decide
      have q1 : o.wh ≠ 7 := fun e => n1 (by rw [← hA, e, q7])
      have q2 : p.wh ≠ 7 := fun e => n2 (by rw [← hB, e, q7])
      clear hn
      have l1 := oX_len m0 o
      obtain ⟨m1, h1⟩ : ∃ m, m0.oX o = m := ⟨_, rfl⟩
      rw [h1, l0] at l1
      have l2 := oX_len m1 p
      have ha := fun j => oX_out m1 p j q2
      obtain ⟨m2, h2⟩ : ∃ m, m1.oX p = m := ⟨_, rfl⟩
      rw [h2, l1] at l2
      rw [h2, hB] at ha
      cases hx : m1.has o.ad A with
      | false =>
        have hx2 : m2.has o.ad A = false := by rw [← hx]; simp only [M.has, l1, l2]
        simp (config := { maxSteps := 10000000 }) only [run_drx, run_xd, run_xq, run_xg, run_xb, EV1, EV2, EV3, EV4, EV5, EV6, addT, istep, lenR_sl, lenR_ns, lenR_es, pickR, putD, bin1R, un1R, slcR, bnd, capsOf, fillP, S_plain, V_plain, V.cells, S_known, V_known, C.v, blk, setL, setH, eqS, eq1, cmpS, cmp1, isNil, popTo, killT, setT, leT, V.below, C.below, S_below, R.below, V.val, C.val, S_val, R.val, R.takes, vals, shows, List.any_cons, List.any_nil, unnamed, V.kill, V.names, C.names, S_names, R.names, List.set, List.replicate, ↓q_cond_t, ↓q_cond_f, if_true, if_false, reduceCtorEq, rvals, rvC, result, C_known, V.noL, C.noL, S_noL, R.noL, Option.map, true_and, and_true, ge_iff_le, gt_iff_lt, implies_true, q_ite_t, q_ite_f, beq_iff_eq, bne_iff_ne, q_ne, Nat.reduceAdd, Nat.reducePow, Int.reducePow, Nat.reduceMul, Nat.reduceSub, Nat.reduceLeDiff, Nat.reduceLT, Nat.reduceEqDiff, Int.reduceNeg, Int.reduceLT, Int.reduceLE, Int.reduceEq, Int.reduceNe, Int.reduceAdd, Int.reduceSub, Int.reduceMul, Int.reduceToNat, Int.reduceBEq, Int.reduceBNe, TAp, sets2G, sets2M, twoX_eq0, twoX_eq, ooOf_eq, ho, hp, q1, q2, h1, h2, dumpG, dumpM, memF_new1, memF_new1A, hx, hx2, sameWG, listOf_n8, k1, k2, k3, k4, k5, k6, k7, k8, g1, g2, g3, g4, sub, List.drop_zero]
        exact cut_20 hc rfl hS
      | true =>
        have hx2 : m2.has o.ad A = true := by rw [← hx]; simp only [M.has, l1, l2]
        have hi := M.has_iff.1 hx
        obtain ⟨i, hi1⟩ : ∃ i : Nat, o.ad = i := ⟨o.ad.toNat, by omega⟩
        obtain ⟨k, hk1⟩ : ∃ k : Nat, A = k := ⟨A.toNat, by omega⟩
        have e1 : o.ad.toNat = i := by omega
        have e2 : A.toNat = k := by omega
        obtain ⟨W, hW⟩ : ∃ W, (m1.w.drop i).take k = W := ⟨_, rfl⟩
        have hWl : W.length = k := by rw [← hW]; exact M.part_len (m := m1) (by omega)
        have hW2 : (m2.w.drop i).take k = W := M.part_ext (by omega) hWl fun j hj => by
          rw [ha (i + j) (by omega), ← M.at_part (m := m1) hj, M.part, hW]
        have b1 : W.length ≤ 8796093022208 := by omega
        simp (config := { maxSteps := 10000000 }) only [run_drx, run_xd, run_xq, run_xg, run_xb, EV1, EV2, EV3, EV4, EV5, EV6, addT, istep, lenR_sl, lenR_ns, lenR_es, pickR, putD, bin1R, un1R, slcR, bnd, capsOf, fillP, S_plain, V_plain, V.cells, S_known, V_known, C.v, blk, setL, setH, eqS, eq1, cmpS, cmp1, isNil, popTo, killT, setT, leT, V.below, C.below, S_below, R.below, V.val, C.val, S_val, R.val, R.takes, vals, shows, List.any_cons, List.any_nil, unnamed, V.kill, V.names, C.names, S_names, R.names, List.set, List.replicate, ↓q_cond_t, ↓q_cond_f, if_true, if_false, reduceCtorEq, rvals, rvC, result, C_known, V.noL, C.noL, S_noL, R.noL, Option.map, true_and, and_true, ge_iff_le, gt_iff_lt, implies_true, q_ite_t, q_ite_f, beq_iff_eq, bne_iff_ne, q_ne, Nat.reduceAdd, Nat.reducePow, Int.reducePow, Nat.reduceMul, Nat.reduceSub, Nat.reduceLeDiff, Nat.reduceLT, Nat.reduceEqDiff, Int.reduceNeg, Int.reduceLT, Int.reduceLE, Int.reduceEq, Int.reduceNe, Int.reduceAdd, Int.reduceSub, Int.reduceMul, Int.reduceToNat, Int.reduceBEq, Int.reduceBNe, TAp, sets2G, sets2M, twoX_eq0, twoX_eq, ooOf_eq, ho, hp, q1, q2, h1, h2, dumpG, dumpM, memF_new1, memF_new1A, hx, hx2, e1, e2, hW, hW2, k1, k2, k3, k4, k5, k6, k7, k8, g1, g2, g3, g4, sub, List.drop_zero]
        intro c _ c2 _
        have j1 : ∀ X, listOf (memH (memH h m2) m2 ++ (⟨.rw, wc W, c⟩ :: X)) (.sl (.g (h.length + 2 + 2)) 0 k c) = some W := fun X => listOf_at (st := .rw) (room := c) (by rw [nh0]; rfl) (fun x => BK.noConfusion x) hWl
        have j2 : ∀ B X, listOf (memH (memH h m2) m2 ++ (B :: ⟨.rw, wc W, c2⟩ :: X)) (.sl (.g (h.length + 2 + 2 + 1)) 0 k c2) = some W := fun B X => listOf_at (st := .rw) (room := c2) (by rw [nh1]; rfl) (fun x => BK.noConfusion x) hWl
        simp (config := { maxSteps := 10000000 }) only [run_drx, run_xd, run_xq, run_xg, run_xb, EV1, EV2, EV3, EV4, EV5, EV6, addT, istep, lenR_sl, lenR_ns, lenR_es, pickR, putD, bin1R, un1R, slcR, bnd, capsOf, fillP, S_plain, V_plain, V.cells, S_known, V_known, C.v, blk, setL, setH, eqS, eq1, cmpS, cmp1, isNil, popTo, killT, setT, leT, V.below, C.below, S_below, R.below, V.val, C.val, S_val, R.val, R.takes, vals, shows, List.any_cons, List.any_nil, unnamed, V.kill, V.names, C.names, S_names, R.names, List.set, List.replicate, ↓q_cond_t, ↓q_cond_f, if_true, if_false, reduceCtorEq, rvals, rvC, result, C_known, V.noL, C.noL, S_noL, R.noL, Option.map, true_and, and_true, ge_iff_le, gt_iff_lt, implies_true, q_ite_t, q_ite_f, beq_iff_eq, bne_iff_ne, q_ne, Nat.reduceAdd, Nat.reducePow, Int.reducePow, Nat.reduceMul, Nat.reduceSub, Nat.reduceLeDiff, Nat.reduceLT, Nat.reduceEqDiff, Int.reduceNeg, Int.reduceLT, Int.reduceLE, Int.reduceEq, Int.reduceNe, Int.reduceAdd, Int.reduceSub, Int.reduceMul, Int.reduceToNat, Int.reduceBEq, Int.reduceBNe, TAp, sameWG, j1, j2, b1, memH_len]
        exact cut_2 hc rfl hS
    · exact hS.elim
  · exact hS.elim
end Go.Proofs.Ytdlloccodmdnnaa

/- Package caps: sizes, bare, in, mapped. -/
namespace Go.Proofs.Ytdlloccodmdnnaa
open Go.D
set_option linter.all false
set_option maxRecDepth 100000
set_option maxHeartbeats 4000000

/-- A cap, field by field. -/
structure Cap where
  ty : Int
  obj : Int
  bits : Int
  mark : Int
  guard : Int
  gbits : Int
  badge : Int
  rights : Int
  asid : Int
  vaddr : Int
  line : Int
def Cap.cl (c : Cap) : List S := [.i .i64 c.ty, .i .i64 c.obj, .i .i64 c.bits, .i .i64 c.mark, .i .i64 c.guard, .i .i64 c.gbits, .i .i64 c.badge, .i .i64 c.rights, .i .i64 c.asid, .i .i64 c.vaddr, .i .i64 c.line]
end Go.Proofs.Ytdlloccodmdnnaa

