/- Package objs: registers, entries, roots, in code and document. -/
import Derived.Test.YtdlloccodmdnnaaZ10
import Derived.Test.YtdlloccodmdnnaaZ21
import Derived.Test.YtdlloccodmdnnaaZ22
/- Package objs: registers, entries, roots, in code and document. -/
namespace Go.Proofs.Ytdlloccodmdnnaa
open Go.D
set_option linter.all false
set_option maxRecDepth 100000
set_option maxHeartbeats 8000000

/-- May one of so many places of an object be meant? -/
def plE (m : M) (a k i hi : Int) : Int := cond (otB m a k) (cond (in3 i 0 hi) 0 1) 20
def registerM (b : Nat) (m : M) (st : M → List Blk) : List V → Res
  | [.s (.i .i64 a), .s (.i .i64 i)] => .ok (.tup [.s (.i .i64 (cond (plE m a 64 i 15 == 0) (a + 32 + i) 0)), .s (.i .i64 (plE m a 64 i 15))]) [] (st m)
  | _ => .bad
noncomputable def registerG := memF registerM
def placeM (b : Nat) (m : M) (st : M → List Blk) : List V → Res
  | [.s (.i .i64 a), .s (.i .i64 i)] => .ok (.tup [.s (.i .i64 (cond (plE m a 8 i 7 == 0) (a + i) 0)), .s (.i .i64 (plE m a 8 i 7))]) [] (st m)
  | _ => .bad
noncomputable def placeG := memF placeM
noncomputable def ToP : Tab := addT 69 otG (addT 112 oinG (noT))
theorem ToP_snd : ToP.Snd Try.prog := addT_snd ok69 ot_snd (addT_snd ok112 oin_snd ((noT_snd _)))

theorem register_snd : Snd Try.prog 79 (FSpec.of registerG) := snd_run ToP_snd mixed Try.func79 dc79 200 fun args h K hc hS => by
  obtain ⟨a, b, m, rest, rfl, H, hS1⟩ := memF_spec hS
  clear hS
  have hS := hS1
  clear hS1
  unfold registerM at hS
  split at hS
  · rename_i x i
    simp only [spec_ok, plE, setM_self H] at hS
    have n4 : (0 : Int) < 64 ∧ (64 : Int) ≤ 64 := by decide
    cases ht : otB m x 64 with
    | false =>
      simp only [ht, cond_false, show ((20 : Int) == 0) = false from rfl] at hS
      simp (config := { maxSteps := 10000000 }) only [run_drx, run_xd, run_xq, run_xg, run_xb, EV1, EV2, EV3, EV4, EV5, EV6, addT, istep, lenR_sl, lenR_ns, lenR_es, pickR, putD, bin1R, un1R, slcR, bnd, capsOf, fillP, S_plain, V_plain, V.cells, S_known, V_known, C.v, blk, setL, setH, eqS, eq1, cmpS, cmp1, isNil, popTo, killT, setT, leT, V.below, C.below, S_below, R.below, V.val, C.val, S_val, R.val, R.takes, vals, shows, List.any_cons, List.any_nil, unnamed, V.kill, V.names, C.names, S_names, R.names, List.set, List.replicate, ↓q_cond_t, ↓q_cond_f, if_true, if_false, reduceCtorEq, rvals, rvC, result, C_known, V.noL, C.noL, S_noL, R.noL, Option.map, true_and, and_true, ge_iff_le, gt_iff_lt, implies_true, q_ite_t, q_ite_f, beq_iff_eq, bne_iff_ne, q_ne, Nat.reduceAdd, Nat.reducePow, Int.reducePow, Nat.reduceMul, Nat.reduceSub, Nat.reduceLeDiff, Nat.reduceLT, Nat.reduceEqDiff, Int.reduceNeg, Int.reduceLT, Int.reduceLE, Int.reduceEq, Int.reduceNe, Int.reduceAdd, Int.reduceSub, Int.reduceMul, Int.reduceToNat, Int.reduceBEq, Int.reduceBNe, df79, ToP, otG, memF_eq H, otM, n4, setM_self H, ht]
      exact hS
    | true =>
      have hb := otB_iff.1 ht
      have hl := m.l
      cases hi : in3 i 0 15 with
      | false =>
        simp only [ht, hi, cond_false, cond_true, show ((1 : Int) == 0) = false from rfl] at hS
        have hi2 : inO i 15 = false := hi
        simp (config := { maxSteps := 10000000 }) only [run_drx, run_xd, run_xq, run_xg, run_xb, EV1, EV2, EV3, EV4, EV5, EV6, addT, istep, lenR_sl, lenR_ns, lenR_es, pickR, putD, bin1R, un1R, slcR, bnd, capsOf, fillP, S_plain, V_plain, V.cells, S_known, V_known, C.v, blk, setL, setH, eqS, eq1, cmpS, cmp1, isNil, popTo, killT, setT, leT, V.below, C.below, S_below, R.below, V.val, C.val, S_val, R.val, R.takes, vals, shows, List.any_cons, List.any_nil, unnamed, V.kill, V.names, C.names, S_names, R.names, List.set, List.replicate, ↓q_cond_t, ↓q_cond_f, if_true, if_false, reduceCtorEq, rvals, rvC, result, C_known, V.noL, C.noL, S_noL, R.noL, Option.map, true_and, and_true, ge_iff_le, gt_iff_lt, implies_true, q_ite_t, q_ite_f, beq_iff_eq, bne_iff_ne, q_ne, Nat.reduceAdd, Nat.reducePow, Int.reducePow, Nat.reduceMul, Nat.reduceSub, Nat.reduceLeDiff, Nat.reduceLT, Nat.reduceEqDiff, Int.reduceNeg, Int.reduceLT, Int.reduceLE, Int.reduceEq, Int.reduceNe, Int.reduceAdd, Int.reduceSub, Int.reduceMul, Int.reduceToNat, Int.reduceBEq, Int.reduceBNe, df79, ToP, otG, memF_eq H, otM, n4, setM_self H, ht, oinG, hi2]
        exact hS
      | true =>
        simp only [ht, hi, cond_true, show ((0 : Int) == 0) = true from rfl] at hS
        have hi2 : inO i 15 = true := hi
        have hi3 := in3_iff.1 hi
        have x1 : IntKind.i64.wrap (x + 32) = x + 32 := wrap64 (by omega) (by omega)
        have x2 : IntKind.i64.wrap (x + 32 + i) = x + 32 + i := wrap64 (by omega) (by omega)
        have x3 : IntKind.i64.wrap (x + i) = x + i := wrap64 (by omega) (by omega)
        simp (config := { maxSteps := 10000000 }) only [run_drx, run_xd, run_xq, run_xg, run_xb, EV1, EV2, EV3, EV4, EV5, EV6, addT, istep, lenR_sl, lenR_ns, lenR_es, pickR, putD, bin1R, un1R, slcR, bnd, capsOf, fillP, S_plain, V_plain, V.cells, S_known, V_known, C.v, blk, setL, setH, eqS, eq1, cmpS, cmp1, isNil, popTo, killT, setT, leT, V.below, C.below, S_below, R.below, V.val, C.val, S_val, R.val, R.takes, vals, shows, List.any_cons, List.any_nil, unnamed, V.kill, V.names, C.names, S_names, R.names, List.set, List.replicate, ↓q_cond_t, ↓q_cond_f, if_true, if_false, reduceCtorEq, rvals, rvC, result, C_known, V.noL, C.noL, S_noL, R.noL, Option.map, true_and, and_true, ge_iff_le, gt_iff_lt, implies_true, q_ite_t, q_ite_f, beq_iff_eq, bne_iff_ne, q_ne, Nat.reduceAdd, Nat.reducePow, Int.reducePow, Nat.reduceMul, Nat.reduceSub, Nat.reduceLeDiff, Nat.reduceLT, Nat.reduceEqDiff, Int.reduceNeg, Int.reduceLT, Int.reduceLE, Int.reduceEq, Int.reduceNe, Int.reduceAdd, Int.reduceSub, Int.reduceMul, Int.reduceToNat, Int.reduceBEq, Int.reduceBNe, df79, ToP, otG, memF_eq H, otM, n4, setM_self H, ht, oinG, hi2, x1, x2, x3]
        exact hS
  · exact hS.elim

theorem place_snd : Snd Try.prog 74 (FSpec.of placeG) := snd_run ToP_snd mixed Try.func74 dc74 200 fun args h K hc hS => by
  obtain ⟨a, b, m, rest, rfl, H, hS1⟩ := memF_spec hS
  clear hS
  have hS := hS1
  clear hS1
  unfold placeM at hS
  split at hS
  · rename_i x i
    simp only [spec_ok, plE, setM_self H] at hS
    have n4 : (0 : Int) < 8 ∧ (8 : Int) ≤ 64 := by decide
    cases ht : otB m x 8 with
    | false =>
      simp only [ht, cond_false, show ((20 : Int) == 0) = false from rfl] at hS
      simp (config := { maxSteps := 10000000 }) only [run_drx, run_xd, run_xq, run_xg, run_xb, EV1, EV2, EV3, EV4, EV5, EV6, addT, istep, lenR_sl, lenR_ns, lenR_es, pickR, putD, bin1R, un1R, slcR, bnd, capsOf, fillP, S_plain, V_plain, V.cells, S_known, V_known, C.v, blk, setL, setH, eqS, eq1, cmpS, cmp1, isNil, popTo, killT, setT, leT, V.below, C.below, S_below, R.below, V.val, C.val, S_val, R.val, R.takes, vals, shows, List.any_cons, List.any_nil, unnamed, V.kill, V.names, C.names, S_names, R.names, List.set, List.replicate, ↓q_cond_t, ↓q_cond_f, if_true, if_false, reduceCtorEq, rvals, rvC, result, C_known, V.noL, C.noL, S_noL, R.noL, Option.map, true_and, and_true, ge_iff_le, gt_iff_lt, implies_true, q_ite_t, q_ite_f, beq_iff_eq, bne_iff_ne, q_ne, Nat.reduceAdd, Nat.reducePow, Int.reducePow, Nat.reduceMul, Nat.reduceSub, Nat.reduceLeDiff, Nat.reduceLT, Nat.reduceEqDiff, Int.reduceNeg, Int.reduceLT, Int.reduceLE, Int.reduceEq, Int.reduceNe, Int.reduceAdd, Int.reduceSub, Int.reduceMul, Int.reduceToNat, Int.reduceBEq, Int.reduceBNe, df74, ToP, otG, memF_eq H, otM, n4, setM_self H, ht]
      exact hS
    | true =>
      have hb := otB_iff.1 ht
      have hl := m.l
      cases hi : in3 i 0 7 with
      | false =>
        simp only [ht, hi, cond_false, cond_true, show ((1 : Int) == 0) = false from rfl] at hS
        have hi2 : inO i 7 = false := hi
        simp (config := { maxSteps := 10000000 }) only [run_drx, run_xd, run_xq, run_xg, run_xb, EV1, EV2, EV3, EV4, EV5, EV6, addT, istep, lenR_sl, lenR_ns, lenR_es, pickR, putD, bin1R, un1R, slcR, bnd, capsOf, fillP, S_plain, V_plain, V.cells, S_known, V_known, C.v, blk, setL, setH, eqS, eq1, cmpS, cmp1, isNil, popTo, killT, setT, leT, V.below, C.below, S_below, R.below, V.val, C.val, S_val, R.val, R.takes, vals, shows, List.any_cons, List.any_nil, unnamed, V.kill, V.names, C.names, S_names, R.names, List.set, List.replicate, ↓q_cond_t, ↓q_cond_f, if_true, if_false, reduceCtorEq, rvals, rvC, result, C_known, V.noL, C.noL, S_noL, R.noL, Option.map, true_and, and_true, ge_iff_le, gt_iff_lt, implies_true, q_ite_t, q_ite_f, beq_iff_eq, bne_iff_ne, q_ne, Nat.reduceAdd, Nat.reducePow, Int.reducePow, Nat.reduceMul, Nat.reduceSub, Nat.reduceLeDiff, Nat.reduceLT, Nat.reduceEqDiff, Int.reduceNeg, Int.reduceLT, Int.reduceLE, Int.reduceEq, Int.reduceNe, Int.reduceAdd, Int.reduceSub, Int.reduceMul, Int.reduceToNat, Int.reduceBEq, Int.reduceBNe, df74, ToP, otG, memF_eq H, otM, n4, setM_self H, ht, oinG, hi2]
        exact hS
      | true =>
        simp only [ht, hi, cond_true, show ((0 : Int) == 0) = true from rfl] at hS
        have hi2 : inO i 7 = true := hi
        have hi3 := in3_iff.1 hi
        have x1 : IntKind.i64.wrap (x + 32) = x + 32 := wrap64 (by omega) (by omega)
        have x2 : IntKind.i64.wrap (x + 32 + i) = x + 32 + i := wrap64 (by omega) (by omega)
        have x3 : IntKind.i64.wrap (x + i) = x + i := wrap64 (by omega) (by omega)
        simp (config := { maxSteps := 10000000 }) only [run_drx, run_xd, run_xq, run_xg, run_xb, EV1, EV2, EV3, EV4, EV5, EV6, addT, istep, lenR_sl, lenR_ns, lenR_es, pickR, putD, bin1R, un1R, slcR, bnd, capsOf, fillP, S_plain, V_plain, V.cells, S_known, V_known, C.v, blk, setL, setH, eqS, eq1, cmpS, cmp1, isNil, popTo, killT, setT, leT, V.below, C.below, S_below, R.below, V.val, C.val, S_val, R.val, R.takes, vals, shows, List.any_cons, List.any_nil, unnamed, V.kill, V.names, C.names, S_names, R.names, List.set, List.replicate, ↓q_cond_t, ↓q_cond_f, if_true, if_false, reduceCtorEq, rvals, rvC, result, C_known, V.noL, C.noL, S_noL, R.noL, Option.map, true_and, and_true, ge_iff_le, gt_iff_lt, implies_true, q_ite_t, q_ite_f, beq_iff_eq, bne_iff_ne, q_ne, Nat.reduceAdd, Nat.reducePow, Int.reducePow, Nat.reduceMul, Nat.reduceSub, Nat.reduceLeDiff, Nat.reduceLT, Nat.reduceEqDiff, Int.reduceNeg, Int.reduceLT, Int.reduceLE, Int.reduceEq, Int.reduceNe, Int.reduceAdd, Int.reduceSub, Int.reduceMul, Int.reduceToNat, Int.reduceBEq, Int.reduceBNe, df74, ToP, otG, memF_eq H, otM, n4, setM_self H, ht, oinG, hi2, x1, x2, x3]
        exact hS
  · exact hS.elim

def rootB (n : Int) : Bool := n == 0 || (decide (1024 ≤ n) && (decide (n ≤ 65528) && (n.tmod 8 == 0)))
theorem rootB_iff {n : Int} : rootB n = true ↔ n = 0 ∨ (1024 ≤ n ∧ n ≤ 65528 ∧ n % 8 = 0) := by
  simp only [rootB, Bool.or_eq_true, Bool.and_eq_true, beq_iff_eq, decide_eq_true_eq]
  constructor
  · rintro (h | ⟨h1, h2, h3⟩)
    · exact .inl h
    · rw [Int.tmod_eq_emod_of_nonneg (by omega)] at h3
      exact .inr ⟨h1, h2, h3⟩
  · rintro (h | ⟨h1, h2, h3⟩)
    · exact .inl h
    · rw [Int.tmod_eq_emod_of_nonneg (by omega)]
      exact .inr ⟨h1, h2, h3⟩
def rootedG : List V → List Blk → Res
  | [.s (.i .i64 n)], h => .ok (.s (.b (rootB n))) [] h
  | _, _ => .bad
theorem rooted_snd : Snd Try.prog 76 (FSpec.of rootedG) := snd_run To3_snd mixed Try.func76 dc76 200 fun args h K hc hS => by
  unfold rootedG at hS
  split at hS
  · rename_i n
    simp only [spec_ok, rootB] at hS
    simp (config := { maxSteps := 10000000 }) only [run_drx, run_xd, run_xq, run_xg, run_xb, EV1, EV2, EV3, EV4, EV5, EV6, addT, istep, lenR_sl, lenR_ns, lenR_es, pickR, putD, bin1R, un1R, slcR, bnd, capsOf, fillP, S_plain, V_plain, V.cells, S_known, V_known, C.v, blk, setL, setH, eqS, eq1, cmpS, cmp1, isNil, popTo, killT, setT, leT, V.below, C.below, S_below, R.below, V.val, C.val, S_val, R.val, R.takes, vals, shows, List.any_cons, List.any_nil, unnamed, V.kill, V.names, C.names, S_names, R.names, List.set, List.replicate, ↓q_cond_t, ↓q_cond_f, if_true, if_false, reduceCtorEq, rvals, rvC, result, C_known, V.noL, C.noL, S_noL, R.noL, Option.map, true_and, and_true, ge_iff_le, gt_iff_lt, implies_true, q_ite_t, q_ite_f, beq_iff_eq, bne_iff_ne, q_ne, Nat.reduceAdd, Nat.reducePow, Int.reducePow, Nat.reduceMul, Nat.reduceSub, Nat.reduceLeDiff, Nat.reduceLT, Nat.reduceEqDiff, Int.reduceNeg, Int.reduceLT, Int.reduceLE, Int.reduceEq, Int.reduceNe, Int.reduceAdd, Int.reduceSub, Int.reduceMul, Int.reduceToNat, Int.reduceBEq, Int.reduceBNe, df76, To3, rinG, in3, Bool.and_assoc]
    exact hS
  · exact hS.elim
def M.rgE (m : M) (a i : Int) : Int := plE m a 64 i 15
def M.rgV (m : M) (a i : Int) : Int := cond (plE m a 64 i 15 == 0) (m.at (a + 32 + i)) 0
def M.rgX (m : M) (a i : Int) : M := cond (plE m a 64 i 15 == 0) (m.tick 1) m
def M.rsX (m : M) (a i w : Int) : M := cond (plE m a 64 i 15 == 0) ((m.put (a + 32 + i).toNat w).tick 1) m
def M.etE (m : M) (a i : Int) : Int := cond (plE m a 8 i 7 == 0) (cond (enB (m.at (a + i))) 0 90) (plE m a 8 i 7)
def M.etV (m : M) (a i : Int) : En := cond (plE m a 8 i 7 == 0) (cond (enB (m.at (a + i))) (enOf (m.at (a + i))) enZ) enZ
def M.plX (m : M) (a i : Int) : M := cond (plE m a 8 i 7 == 0) (m.tick 1) m
def M.esE (m : M) (a i : Int) (e : En) : Int := cond (plE m a 8 i 7 == 0) (cond e.may 0 90) (plE m a 8 i 7)
def M.esX (m : M) (a i : Int) (e : En) : M := cond (plE m a 8 i 7 == 0 && e.may) ((m.put (a + i).toNat e.w).tick 1) m
def rtOk (w : Int) : Bool := decide (w ≤ 65535) && rootB w
def M.rtE (m : M) (a i : Int) : Int := cond (plE m a 8 i 7 == 0) (cond (rtOk (m.at (a + i))) 0 90) (plE m a 8 i 7)
def M.rtV (m : M) (a i : Int) : Int := cond (plE m a 8 i 7 == 0) (cond (rtOk (m.at (a + i))) (m.at (a + i)) 0) 0
def M.tsE (m : M) (a i n : Int) : Int := cond (plE m a 8 i 7 == 0) (cond (rootB n) 0 90) (plE m a 8 i 7)
def M.tsX (m : M) (a i n : Int) : M := cond (plE m a 8 i 7 == 0 && rootB n) ((m.put (a + i).toNat n).tick 1) m
def rggetM (b : Nat) (m : M) (st : M → List Blk) : List V → Res
  | [.s (.i .i64 a), .s (.i .i64 i)] => .ok (.tup [.s (.i .u64 (m.rgV a i)), .s (.i .i64 (m.rgE a i))]) [] (st (m.rgX a i))
  | _ => .bad
noncomputable def rggetG := memF rggetM
def rgsetM (b : Nat) (m : M) (st : M → List Blk) : List V → Res
  | [.s (.i .i64 a), .s (.i .i64 i), .s (.i .u64 w)] => .ob (u64 w) (.ok (.s (.i .i64 (m.rgE a i))) [] (st (m.rsX a i w)))
  | _ => .bad
noncomputable def rgsetG := memF rgsetM
def etgetM (b : Nat) (m : M) (st : M → List Blk) : List V → Res
  | [.s (.i .i64 a), .s (.i .i64 i)] => .ok (.tup [.agg (m.etV a i).c, .s (.i .i64 (m.etE a i))]) [] (st (m.plX a i))
  | _ => .bad
noncomputable def etgetG := memF etgetM
def etsetM (b : Nat) (m : M) (st : M → List Blk) : List V → Res
  | [.s (.i .i64 a), .s (.i .i64 i), x] => enF (fun e => .ok (.s (.i .i64 (m.esE a i e))) [] (st (m.esX a i e))) [x]
  | _ => .bad
noncomputable def etsetG := memF etsetM
def rtgetM (b : Nat) (m : M) (st : M → List Blk) : List V → Res
  | [.s (.i .i64 a), .s (.i .i64 i)] => .ok (.tup [.s (.i .i64 (m.rtV a i)), .s (.i .i64 (m.rtE a i))]) [] (st (m.plX a i))
  | _ => .bad
noncomputable def rtgetG := memF rtgetM
def rtsetM (b : Nat) (m : M) (st : M → List Blk) : List V → Res
  | [.s (.i .i64 a), .s (.i .i64 i), .s (.i .i64 n)] => .ok (.s (.i .i64 (m.tsE a i n))) [] (st (m.tsX a i n))
  | _ => .bad
noncomputable def rtsetG := memF rtsetM
noncomputable def ToC : Tab := addT 79 registerG (addT 74 placeG (addT 70 readG (addT 78 writeG (addT 75 decEG (addT 81 encEG (addT 76 rootedG (noT)))))))
theorem ToC_snd : ToC.Snd Try.prog := addT_snd ok79 register_snd (addT_snd ok74 place_snd (addT_snd ok70 mread_snd (addT_snd ok78 mwrite_snd (addT_snd ok75 decE_snd (addT_snd ok81 encE_snd (addT_snd ok76 rooted_snd ((noT_snd _))))))))
theorem rgget_snd : Snd Try.prog 41 (FSpec.of rggetG) := snd_run ToC_snd mixed Try.func41 dc41 300 fun args h K hc hS => by
  obtain ⟨a, b, m, rest, rfl, H, hS1⟩ := memF_spec hS
  clear hS
  have hS := hS1
  clear hS1
  unfold rggetM at hS
  split at hS
  · rename_i x i
    simp only [spec_ok, M.rgE, M.rgV, M.rgX] at hS
    have n4 : (0 : Int) < 64 ∧ (64 : Int) ≤ 64 := by decide
    have hl := m.l
    cases ht : otB m x 64 with
    | false =>
      have hp : plE m x 64 i 15 = 20 := by simp only [plE, ht, cond_false]
      simp only [hp, show ((20 : Int) == 0) = false from rfl, show ((1 : Int) == 0) = false from rfl, show ((0 : Int) == 0) = true from rfl, cond_false, Bool.false_and, setM_self H] at hS
      simp (config := { maxSteps := 10000000 }) only [run_drx, run_xd, run_xq, run_xg, run_xb, EV1, EV2, EV3, EV4, EV5, EV6, addT, istep, lenR_sl, lenR_ns, lenR_es, pickR, putD, bin1R, un1R, slcR, bnd, capsOf, fillP, S_plain, V_plain, V.cells, S_known, V_known, C.v, blk, setL, setH, eqS, eq1, cmpS, cmp1, isNil, popTo, killT, setT, leT, V.below, C.below, S_below, R.below, V.val, C.val, S_val, R.val, R.takes, vals, shows, List.any_cons, List.any_nil, unnamed, V.kill, V.names, C.names, S_names, R.names, List.set, List.replicate, ↓q_cond_t, ↓q_cond_f, if_true, if_false, reduceCtorEq, rvals, rvC, result, C_known, V.noL, C.noL, S_noL, R.noL, Option.map, true_and, and_true, ge_iff_le, gt_iff_lt, implies_true, q_ite_t, q_ite_f, beq_iff_eq, bne_iff_ne, q_ne, Nat.reduceAdd, Nat.reducePow, Int.reducePow, Nat.reduceMul, Nat.reduceSub, Nat.reduceLeDiff, Nat.reduceLT, Nat.reduceEqDiff, Int.reduceNeg, Int.reduceLT, Int.reduceLE, Int.reduceEq, Int.reduceNe, Int.reduceAdd, Int.reduceSub, Int.reduceMul, Int.reduceToNat, Int.reduceBEq, Int.reduceBNe, df41, ToC, registerG, memF_eq H, memF_set H, registerM, setM_self H, show ((20 : Int) == 0) = false from rfl, show ((1 : Int) == 0) = false from rfl, show ((0 : Int) == 0) = true from rfl, put, fillP, sub, List.take_succ_cons, List.take_zero, List.drop_zero, hp]
      exact hS
    | true =>
      have hb := otB_iff.1 ht
      by_cases c0 : 0 ≤ i ∧ i ≤ 15
      · have hp : plE m x 64 i 15 = 0 := by simp only [plE, ht, cond_true, in3_iff.2 c0]
        simp only [hp, show ((20 : Int) == 0) = false from rfl, show ((1 : Int) == 0) = false from rfl, show ((0 : Int) == 0) = true from rfl, cond_true, Bool.true_and] at hS
        have c1 : ¬ i < 0 := by omega
        have c2 : ¬ 15 < i := by omega
        have x1 : IntKind.i64.wrap (x + 32) = x + 32 := wrap64 (by omega) (by omega)
        have x2 : IntKind.i64.wrap (x + 32 + i) = x + 32 + i := wrap64 (by omega) (by omega)
        have x3 : IntKind.i64.wrap (x + i) = x + i := wrap64 (by omega) (by omega)
        have h0 : m.has (x + 32 + i) 1 = true := M.has_of (by omega)
        simp (config := { maxSteps := 10000000 }) only [run_drx, run_xd, run_xq, run_xg, run_xb, EV1, EV2, EV3, EV4, EV5, EV6, addT, istep, lenR_sl, lenR_ns, lenR_es, pickR, putD, bin1R, un1R, slcR, bnd, capsOf, fillP, S_plain, V_plain, V.cells, S_known, V_known, C.v, blk, setL, setH, eqS, eq1, cmpS, cmp1, isNil, popTo, killT, setT, leT, V.below, C.below, S_below, R.below, V.val, C.val, S_val, R.val, R.takes, vals, shows, List.any_cons, List.any_nil, unnamed, V.kill, V.names, C.names, S_names, R.names, List.set, List.replicate, ↓q_cond_t, ↓q_cond_f, if_true, if_false, reduceCtorEq, rvals, rvC, result, C_known, V.noL, C.noL, S_noL, R.noL, Option.map, true_and, and_true, ge_iff_le, gt_iff_lt, implies_true, q_ite_t, q_ite_f, beq_iff_eq, bne_iff_ne, q_ne, Nat.reduceAdd, Nat.reducePow, Int.reducePow, Nat.reduceMul, Nat.reduceSub, Nat.reduceLeDiff, Nat.reduceLT, Nat.reduceEqDiff, Int.reduceNeg, Int.reduceLT, Int.reduceLE, Int.reduceEq, Int.reduceNe, Int.reduceAdd, Int.reduceSub, Int.reduceMul, Int.reduceToNat, Int.reduceBEq, Int.reduceBNe, df41, ToC, registerG, memF_eq H, memF_set H, registerM, setM_self H, show ((20 : Int) == 0) = false from rfl, show ((1 : Int) == 0) = false from rfl, show ((0 : Int) == 0) = true from rfl, put, fillP, sub, List.take_succ_cons, List.take_zero, List.drop_zero, hp, h0, readG, readM]
        exact hS
      · have hi : in3 i 0 15 = false := by simp only [in3, Bool.and_eq_false_iff, decide_eq_false_iff_not]; omega
        have hp : plE m x 64 i 15 = 1 := by simp only [plE, ht, cond_true, hi, cond_false]
        simp only [hp, show ((20 : Int) == 0) = false from rfl, show ((1 : Int) == 0) = false from rfl, show ((0 : Int) == 0) = true from rfl, cond_false, Bool.false_and, setM_self H] at hS
        simp (config := { maxSteps := 10000000 }) only [run_drx, run_xd, run_xq, run_xg, run_xb, EV1, EV2, EV3, EV4, EV5, EV6, addT, istep, lenR_sl, lenR_ns, lenR_es, pickR, putD, bin1R, un1R, slcR, bnd, capsOf, fillP, S_plain, V_plain, V.cells, S_known, V_known, C.v, blk, setL, setH, eqS, eq1, cmpS, cmp1, isNil, popTo, killT, setT, leT, V.below, C.below, S_below, R.below, V.val, C.val, S_val, R.val, R.takes, vals, shows, List.any_cons, List.any_nil, unnamed, V.kill, V.names, C.names, S_names, R.names, List.set, List.replicate, ↓q_cond_t, ↓q_cond_f, if_true, if_false, reduceCtorEq, rvals, rvC, result, C_known, V.noL, C.noL, S_noL, R.noL, Option.map, true_and, and_true, ge_iff_le, gt_iff_lt, implies_true, q_ite_t, q_ite_f, beq_iff_eq, bne_iff_ne, q_ne, Nat.reduceAdd, Nat.reducePow, Int.reducePow, Nat.reduceMul, Nat.reduceSub, Nat.reduceLeDiff, Nat.reduceLT, Nat.reduceEqDiff, Int.reduceNeg, Int.reduceLT, Int.reduceLE, Int.reduceEq, Int.reduceNe, Int.reduceAdd, Int.reduceSub, Int.reduceMul, Int.reduceToNat, Int.reduceBEq, Int.reduceBNe, df41, ToC, registerG, memF_eq H, memF_set H, registerM, setM_self H, show ((20 : Int) == 0) = false from rfl, show ((1 : Int) == 0) = false from rfl, show ((0 : Int) == 0) = true from rfl, put, fillP, sub, List.take_succ_cons, List.take_zero, List.drop_zero, hp]
        exact hS
  · exact hS.elim
theorem rgset_snd : Snd Try.prog 40 (FSpec.of rgsetG) := snd_run ToC_snd mixed Try.func40 dc40 300 fun args h K hc hS => by
  obtain ⟨a, b, m, rest, rfl, H, hS1⟩ := memF_spec hS
  clear hS
  have hS := hS1
  clear hS1
  unfold rgsetM at hS
  split at hS
  · rename_i x i w
    obtain ⟨hu, hS⟩ := hS
    simp only [spec_ok, M.rgE, M.rsX] at hS
    have n4 : (0 : Int) < 64 ∧ (64 : Int) ≤ 64 := by decide
    have hl := m.l
    cases ht : otB m x 64 with
    | false =>
      have hp : plE m x 64 i 15 = 20 := by simp only [plE, ht, cond_false]
      simp only [hp, show ((20 : Int) == 0) = false from rfl, show ((1 : Int) == 0) = false from rfl, show ((0 : Int) == 0) = true from rfl, cond_false, Bool.false_and, setM_self H] at hS
      simp (config := { maxSteps := 10000000 }) only [run_drx, run_xd, run_xq, run_xg, run_xb, EV1, EV2, EV3, EV4, EV5, EV6, addT, istep, lenR_sl, lenR_ns, lenR_es, pickR, putD, bin1R, un1R, slcR, bnd, capsOf, fillP, S_plain, V_plain, V.cells, S_known, V_known, C.v, blk, setL, setH, eqS, eq1, cmpS, cmp1, isNil, popTo, killT, setT, leT, V.below, C.below, S_below, R.below, V.val, C.val, S_val, R.val, R.takes, vals, shows, List.any_cons, List.any_nil, unnamed, V.kill, V.names, C.names, S_names, R.names, List.set, List.replicate, ↓q_cond_t, ↓q_cond_f, if_true, if_false, reduceCtorEq, rvals, rvC, result, C_known, V.noL, C.noL, S_noL, R.noL, Option.map, true_and, and_true, ge_iff_le, gt_iff_lt, implies_true, q_ite_t, q_ite_f, beq_iff_eq, bne_iff_ne, q_ne, Nat.reduceAdd, Nat.reducePow, Int.reducePow, Nat.reduceMul, Nat.reduceSub, Nat.reduceLeDiff, Nat.reduceLT, Nat.reduceEqDiff, Int.reduceNeg, Int.reduceLT, Int.reduceLE, Int.reduceEq, Int.reduceNe, Int.reduceAdd, Int.reduceSub, Int.reduceMul, Int.reduceToNat, Int.reduceBEq, Int.reduceBNe, df40, ToC, registerG, memF_eq H, memF_set H, registerM, setM_self H, show ((20 : Int) == 0) = false from rfl, show ((1 : Int) == 0) = false from rfl, show ((0 : Int) == 0) = true from rfl, put, fillP, sub, List.take_succ_cons, List.take_zero, List.drop_zero, hp]
      exact hS
    | true =>
      have hb := otB_iff.1 ht
      by_cases c0 : 0 ≤ i ∧ i ≤ 15
      · have hp : plE m x 64 i 15 = 0 := by simp only [plE, ht, cond_true, in3_iff.2 c0]
        simp only [hp, show ((20 : Int) == 0) = false from rfl, show ((1 : Int) == 0) = false from rfl, show ((0 : Int) == 0) = true from rfl, cond_true, Bool.true_and] at hS
        have c1 : ¬ i < 0 := by omega
        have c2 : ¬ 15 < i := by omega
        have x1 : IntKind.i64.wrap (x + 32) = x + 32 := wrap64 (by omega) (by omega)
        have x2 : IntKind.i64.wrap (x + 32 + i) = x + 32 + i := wrap64 (by omega) (by omega)
        have x3 : IntKind.i64.wrap (x + i) = x + i := wrap64 (by omega) (by omega)
        have h0 : m.has (x + 32 + i) 1 = true := M.has_of (by omega)
        simp (config := { maxSteps := 10000000 }) only [run_drx, run_xd, run_xq, run_xg, run_xb, EV1, EV2, EV3, EV4, EV5, EV6, addT, istep, lenR_sl, lenR_ns, lenR_es, pickR, putD, bin1R, un1R, slcR, bnd, capsOf, fillP, S_plain, V_plain, V.cells, S_known, V_known, C.v, blk, setL, setH, eqS, eq1, cmpS, cmp1, isNil, popTo, killT, setT, leT, V.below, C.below, S_below, R.below, V.val, C.val, S_val, R.val, R.takes, vals, shows, List.any_cons, List.any_nil, unnamed, V.kill, V.names, C.names, S_names, R.names, List.set, List.replicate, ↓q_cond_t, ↓q_cond_f, if_true, if_false, reduceCtorEq, rvals, rvC, result, C_known, V.noL, C.noL, S_noL, R.noL, Option.map, true_and, and_true, ge_iff_le, gt_iff_lt, implies_true, q_ite_t, q_ite_f, beq_iff_eq, bne_iff_ne, q_ne, Nat.reduceAdd, Nat.reducePow, Int.reducePow, Nat.reduceMul, Nat.reduceSub, Nat.reduceLeDiff, Nat.reduceLT, Nat.reduceEqDiff, Int.reduceNeg, Int.reduceLT, Int.reduceLE, Int.reduceEq, Int.reduceNe, Int.reduceAdd, Int.reduceSub, Int.reduceMul, Int.reduceToNat, Int.reduceBEq, Int.reduceBNe, df40, ToC, registerG, memF_eq H, memF_set H, registerM, setM_self H, show ((20 : Int) == 0) = false from rfl, show ((1 : Int) == 0) = false from rfl, show ((0 : Int) == 0) = true from rfl, put, fillP, sub, List.take_succ_cons, List.take_zero, List.drop_zero, hp, h0, hu, writeG, writeM]
        exact hS
      · have hi : in3 i 0 15 = false := by simp only [in3, Bool.and_eq_false_iff, decide_eq_false_iff_not]; omega
        have hp : plE m x 64 i 15 = 1 := by simp only [plE, ht, cond_true, hi, cond_false]
        simp only [hp, show ((20 : Int) == 0) = false from rfl, show ((1 : Int) == 0) = false from rfl, show ((0 : Int) == 0) = true from rfl, cond_false, Bool.false_and, setM_self H] at hS
        simp (config := { maxSteps := 10000000 }) only [run_drx, run_xd, run_xq, run_xg, run_xb, EV1, EV2, EV3, EV4, EV5, EV6, addT, istep, lenR_sl, lenR_ns, lenR_es, pickR, putD, bin1R, un1R, slcR, bnd, capsOf, fillP, S_plain, V_plain, V.cells, S_known, V_known, C.v, blk, setL, setH, eqS, eq1, cmpS, cmp1, isNil, popTo, killT, setT, leT, V.below, C.below, S_below, R.below, V.val, C.val, S_val, R.val, R.takes, vals, shows, List.any_cons, List.any_nil, unnamed, V.kill, V.names, C.names, S_names, R.names, List.set, List.replicate, ↓q_cond_t, ↓q_cond_f, if_true, if_false, reduceCtorEq, rvals, rvC, result, C_known, V.noL, C.noL, S_noL, R.noL, Option.map, true_and, and_true, ge_iff_le, gt_iff_lt, implies_true, q_ite_t, q_ite_f, beq_iff_eq, bne_iff_ne, q_ne, Nat.reduceAdd, Nat.reducePow, Int.reducePow, Nat.reduceMul, Nat.reduceSub, Nat.reduceLeDiff, Nat.reduceLT, Nat.reduceEqDiff, Int.reduceNeg, Int.reduceLT, Int.reduceLE, Int.reduceEq, Int.reduceNe, Int.reduceAdd, Int.reduceSub, Int.reduceMul, Int.reduceToNat, Int.reduceBEq, Int.reduceBNe, df40, ToC, registerG, memF_eq H, memF_set H, registerM, setM_self H, show ((20 : Int) == 0) = false from rfl, show ((1 : Int) == 0) = false from rfl, show ((0 : Int) == 0) = true from rfl, put, fillP, sub, List.take_succ_cons, List.take_zero, List.drop_zero, hp]
        exact hS
  · exact hS.elim
theorem etget_snd : Snd Try.prog 36 (FSpec.of etgetG) := snd_run ToC_snd mixed Try.func36 dc36 300 fun args h K hc hS => by
  obtain ⟨a, b, m, rest, rfl, H, hS1⟩ := memF_spec hS
  clear hS
  have hS := hS1
  clear hS1
  unfold etgetM at hS
  split at hS
  · rename_i x i
    simp only [spec_ok, M.etE, M.etV, M.plX] at hS
    have n4 : (0 : Int) < 8 ∧ (8 : Int) ≤ 64 := by decide
    have hl := m.l
    cases ht : otB m x 8 with
    | false =>
      have hp : plE m x 8 i 7 = 20 := by simp only [plE, ht, cond_false]
      simp only [hp, show ((20 : Int) == 0) = false from rfl, show ((1 : Int) == 0) = false from rfl, show ((0 : Int) == 0) = true from rfl, cond_false, Bool.false_and, setM_self H] at hS
      simp (config := { maxSteps := 10000000 }) only [run_drx, run_xd, run_xq, run_xg, run_xb, EV1, EV2, EV3, EV4, EV5, EV6, addT, istep, lenR_sl, lenR_ns, lenR_es, pickR, putD, bin1R, un1R, slcR, bnd, capsOf, fillP, S_plain, V_plain, V.cells, S_known, V_known, C.v, blk, setL, setH, eqS, eq1, cmpS, cmp1, isNil, popTo, killT, setT, leT, V.below, C.below, S_below, R.below, V.val, C.val, S_val, R.val, R.takes, vals, shows, List.any_cons, List.any_nil, unnamed, V.kill, V.names, C.names, S_names, R.names, List.set, List.replicate, ↓q_cond_t, ↓q_cond_f, if_true, if_false, reduceCtorEq, rvals, rvC, result, C_known, V.noL, C.noL, S_noL, R.noL, Option.map, true_and, and_true, ge_iff_le, gt_iff_lt, implies_true, q_ite_t, q_ite_f, beq_iff_eq, bne_iff_ne, q_ne, Nat.reduceAdd, Nat.reducePow, Int.reducePow, Nat.reduceMul, Nat.reduceSub, Nat.reduceLeDiff, Nat.reduceLT, Nat.reduceEqDiff, Int.reduceNeg, Int.reduceLT, Int.reduceLE, Int.reduceEq, Int.reduceNe, Int.reduceAdd, Int.reduceSub, Int.reduceMul, Int.reduceToNat, Int.reduceBEq, Int.reduceBNe, df36, ToC, placeG, memF_eq H, memF_set H, placeM, setM_self H, show ((20 : Int) == 0) = false from rfl, show ((1 : Int) == 0) = false from rfl, show ((0 : Int) == 0) = true from rfl, put, fillP, sub, List.take_succ_cons, List.take_zero, List.drop_zero, hp]
      exact hS
    | true =>
      have hb := otB_iff.1 ht
      by_cases c0 : 0 ≤ i ∧ i ≤ 7
      · have hp : plE m x 8 i 7 = 0 := by simp only [plE, ht, cond_true, in3_iff.2 c0]
        simp only [hp, show ((20 : Int) == 0) = false from rfl, show ((1 : Int) == 0) = false from rfl, show ((0 : Int) == 0) = true from rfl, cond_true, Bool.true_and] at hS
        have c1 : ¬ i < 0 := by omega
        have c2 : ¬ 7 < i := by omega
        have x1 : IntKind.i64.wrap (x + 32) = x + 32 := wrap64 (by omega) (by omega)
        have x2 : IntKind.i64.wrap (x + 32 + i) = x + 32 + i := wrap64 (by omega) (by omega)
        have x3 : IntKind.i64.wrap (x + i) = x + i := wrap64 (by omega) (by omega)
        have h0 : m.has (x + i) 1 = true := M.has_of (by omega)
        have hu := m.at_u (x + i)
        obtain ⟨w, hw⟩ : ∃ w, m.at (x + i) = w := ⟨_, rfl⟩
        rw [hw] at hu hS
        cases he : enB w with
        | false =>
          simp only [he, cond_false, enZ, En.c] at hS
          simp (config := { maxSteps := 10000000 }) only [run_drx, run_xd, run_xq, run_xg, run_xb, EV1, EV2, EV3, EV4, EV5, EV6, addT, istep, lenR_sl, lenR_ns, lenR_es, pickR, putD, bin1R, un1R, slcR, bnd, capsOf, fillP, S_plain, V_plain, V.cells, S_known, V_known, C.v, blk, setL, setH, eqS, eq1, cmpS, cmp1, isNil, popTo, killT, setT, leT, V.below, C.below, S_below, R.below, V.val, C.val, S_val, R.val, R.takes, vals, shows, List.any_cons, List.any_nil, unnamed, V.kill, V.names, C.names, S_names, R.names, List.set, List.replicate, ↓q_cond_t, ↓q_cond_f, if_true, if_false, reduceCtorEq, rvals, rvC, result, C_known, V.noL, C.noL, S_noL, R.noL, Option.map, true_and, and_true, ge_iff_le, gt_iff_lt, implies_true, q_ite_t, q_ite_f, beq_iff_eq, bne_iff_ne, q_ne, Nat.reduceAdd, Nat.reducePow, Int.reducePow, Nat.reduceMul, Nat.reduceSub, Nat.reduceLeDiff, Nat.reduceLT, Nat.reduceEqDiff, Int.reduceNeg, Int.reduceLT, Int.reduceLE, Int.reduceEq, Int.reduceNe, Int.reduceAdd, Int.reduceSub, Int.reduceMul, Int.reduceToNat, Int.reduceBEq, Int.reduceBNe, df36, ToC, placeG, memF_eq H, memF_set H, placeM, setM_self H, show ((20 : Int) == 0) = false from rfl, show ((1 : Int) == 0) = false from rfl, show ((0 : Int) == 0) = true from rfl, put, fillP, sub, List.take_succ_cons, List.take_zero, List.drop_zero, hp, h0, readG, readM, hw, hu, decEG, he, enZ, En.c]
          exact hS
        | true =>
          simp only [he, cond_true, En.c] at hS
          simp (config := { maxSteps := 10000000 }) only [run_drx, run_xd, run_xq, run_xg, run_xb, EV1, EV2, EV3, EV4, EV5, EV6, addT, istep, lenR_sl, lenR_ns, lenR_es, pickR, putD, bin1R, un1R, slcR, bnd, capsOf, fillP, S_plain, V_plain, V.cells, S_known, V_known, C.v, blk, setL, setH, eqS, eq1, cmpS, cmp1, isNil, popTo, killT, setT, leT, V.below, C.below, S_below, R.below, V.val, C.val, S_val, R.val, R.takes, vals, shows, List.any_cons, List.any_nil, unnamed, V.kill, V.names, C.names, S_names, R.names, List.set, List.replicate, ↓q_cond_t, ↓q_cond_f, if_true, if_false, reduceCtorEq, rvals, rvC, result, C_known, V.noL, C.noL, S_noL, R.noL, Option.map, true_and, and_true, ge_iff_le, gt_iff_lt, implies_true, q_ite_t, q_ite_f, beq_iff_eq, bne_iff_ne, q_ne, Nat.reduceAdd, Nat.reducePow, Int.reducePow, Nat.reduceMul, Nat.reduceSub, Nat.reduceLeDiff, Nat.reduceLT, Nat.reduceEqDiff, Int.reduceNeg, Int.reduceLT, Int.reduceLE, Int.reduceEq, Int.reduceNe, Int.reduceAdd, Int.reduceSub, Int.reduceMul, Int.reduceToNat, Int.reduceBEq, Int.reduceBNe, df36, ToC, placeG, memF_eq H, memF_set H, placeM, setM_self H, show ((20 : Int) == 0) = false from rfl, show ((1 : Int) == 0) = false from rfl, show ((0 : Int) == 0) = true from rfl, put, fillP, sub, List.take_succ_cons, List.take_zero, List.drop_zero, hp, h0, readG, readM, hw, hu, decEG, he, En.c]
          exact hS
      · have hi : in3 i 0 7 = false := by simp only [in3, Bool.and_eq_false_iff, decide_eq_false_iff_not]; omega
        have hp : plE m x 8 i 7 = 1 := by simp only [plE, ht, cond_true, hi, cond_false]
        simp only [hp, show ((20 : Int) == 0) = false from rfl, show ((1 : Int) == 0) = false from rfl, show ((0 : Int) == 0) = true from rfl, cond_false, Bool.false_and, setM_self H] at hS
        simp (config := { maxSteps := 10000000 }) only [run_drx, run_xd, run_xq, run_xg, run_xb, EV1, EV2, EV3, EV4, EV5, EV6, addT, istep, lenR_sl, lenR_ns, lenR_es, pickR, putD, bin1R, un1R, slcR, bnd, capsOf, fillP, S_plain, V_plain, V.cells, S_known, V_known, C.v, blk, setL, setH, eqS, eq1, cmpS, cmp1, isNil, popTo, killT, setT, leT, V.below, C.below, S_below, R.below, V.val, C.val, S_val, R.val, R.takes, vals, shows, List.any_cons, List.any_nil, unnamed, V.kill, V.names, C.names, S_names, R.names, List.set, List.replicate, ↓q_cond_t, ↓q_cond_f, if_true, if_false, reduceCtorEq, rvals, rvC, result, C_known, V.noL, C.noL, S_noL, R.noL, Option.map, true_and, and_true, ge_iff_le, gt_iff_lt, implies_true, q_ite_t, q_ite_f, beq_iff_eq, bne_iff_ne, q_ne, Nat.reduceAdd, Nat.reducePow, Int.reducePow, Nat.reduceMul, Nat.reduceSub, Nat.reduceLeDiff, Nat.reduceLT, Nat.reduceEqDiff, Int.reduceNeg, Int.reduceLT, Int.reduceLE, Int.reduceEq, Int.reduceNe, Int.reduceAdd, Int.reduceSub, Int.reduceMul, Int.reduceToNat, Int.reduceBEq, Int.reduceBNe, df36, ToC, placeG, memF_eq H, memF_set H, placeM, setM_self H, show ((20 : Int) == 0) = false from rfl, show ((1 : Int) == 0) = false from rfl, show ((0 : Int) == 0) = true from rfl, put, fillP, sub, List.take_succ_cons, List.take_zero, List.drop_zero, hp]
        exact hS
  · exact hS.elim
theorem etset_snd : Snd Try.prog 44 (FSpec.of etsetG) := snd_run ToC_snd mixed Try.func44 dc44 300 fun args h K hc hS => by
  obtain ⟨a, b, m, rest, rfl, H, hS1⟩ := memF_spec hS
  clear hS
  have hS := hS1
  clear hS1
  unfold etsetM at hS
  split at hS
  · rename_i x i y
    obtain ⟨q, e, hR⟩ := enF_spec hS
    clear hS
    have hS := hR
    simp only [List.cons.injEq, and_true] at e
    subst e
    obtain ⟨v, l, y, r⟩ := q
    simp only [En.c] at hS ⊢
    simp only [spec_ok, M.esE, M.esX] at hS
    have n4 : (0 : Int) < 8 ∧ (8 : Int) ≤ 64 := by decide
    have hl := m.l
    cases ht : otB m x 8 with
    | false =>
      have hp : plE m x 8 i 7 = 20 := by simp only [plE, ht, cond_false]
      simp only [hp, show ((20 : Int) == 0) = false from rfl, show ((1 : Int) == 0) = false from rfl, show ((0 : Int) == 0) = true from rfl, cond_false, Bool.false_and, setM_self H] at hS
      simp (config := { maxSteps := 10000000 }) only [run_drx, run_xd, run_xq, run_xg, run_xb, EV1, EV2, EV3, EV4, EV5, EV6, addT, istep, lenR_sl, lenR_ns, lenR_es, pickR, putD, bin1R, un1R, slcR, bnd, capsOf, fillP, S_plain, V_plain, V.cells, S_known, V_known, C.v, blk, setL, setH, eqS, eq1, cmpS, cmp1, isNil, popTo, killT, setT, leT, V.below, C.below, S_below, R.below, V.val, C.val, S_val, R.val, R.takes, vals, shows, List.any_cons, List.any_nil, unnamed, V.kill, V.names, C.names, S_names, R.names, List.set, List.replicate, ↓q_cond_t, ↓q_cond_f, if_true, if_false, reduceCtorEq, rvals, rvC, result, C_known, V.noL, C.noL, S_noL, R.noL, Option.map, true_and, and_true, ge_iff_le, gt_iff_lt, implies_true, q_ite_t, q_ite_f, beq_iff_eq, bne_iff_ne, q_ne, Nat.reduceAdd, Nat.reducePow, Int.reducePow, Nat.reduceMul, Nat.reduceSub, Nat.reduceLeDiff, Nat.reduceLT, Nat.reduceEqDiff, Int.reduceNeg, Int.reduceLT, Int.reduceLE, Int.reduceEq, Int.reduceNe, Int.reduceAdd, Int.reduceSub, Int.reduceMul, Int.reduceToNat, Int.reduceBEq, Int.reduceBNe, df44, ToC, placeG, memF_eq H, memF_set H, placeM, setM_self H, show ((20 : Int) == 0) = false from rfl, show ((1 : Int) == 0) = false from rfl, show ((0 : Int) == 0) = true from rfl, put, fillP, sub, List.take_succ_cons, List.take_zero, List.drop_zero, hp]
      exact hS
    | true =>
      have hb := otB_iff.1 ht
      by_cases c0 : 0 ≤ i ∧ i ≤ 7
      · have hp : plE m x 8 i 7 = 0 := by simp only [plE, ht, cond_true, in3_iff.2 c0]
        simp only [hp, show ((20 : Int) == 0) = false from rfl, show ((1 : Int) == 0) = false from rfl, show ((0 : Int) == 0) = true from rfl, cond_true, Bool.true_and] at hS
        have c1 : ¬ i < 0 := by omega
        have c2 : ¬ 7 < i := by omega
        have x1 : IntKind.i64.wrap (x + 32) = x + 32 := wrap64 (by omega) (by omega)
        have x2 : IntKind.i64.wrap (x + 32 + i) = x + 32 + i := wrap64 (by omega) (by omega)
        have x3 : IntKind.i64.wrap (x + i) = x + i := wrap64 (by omega) (by omega)
        have h0 : m.has (x + i) 1 = true := M.has_of (by omega)
        cases he : (En.mk v l y r).may with
        | false =>
          simp only [he, cond_false, setM_self H] at hS
          simp (config := { maxSteps := 10000000 }) only [run_drx, run_xd, run_xq, run_xg, run_xb, EV1, EV2, EV3, EV4, EV5, EV6, addT, istep, lenR_sl, lenR_ns, lenR_es, pickR, putD, bin1R, un1R, slcR, bnd, capsOf, fillP, S_plain, V_plain, V.cells, S_known, V_known, C.v, blk, setL, setH, eqS, eq1, cmpS, cmp1, isNil, popTo, killT, setT, leT, V.below, C.below, S_below, R.below, V.val, C.val, S_val, R.val, R.takes, vals, shows, List.any_cons, List.any_nil, unnamed, V.kill, V.names, C.names, S_names, R.names, List.set, List.replicate, ↓q_cond_t, ↓q_cond_f, if_true, if_false, reduceCtorEq, rvals, rvC, result, C_known, V.noL, C.noL, S_noL, R.noL, Option.map, true_and, and_true, ge_iff_le, gt_iff_lt, implies_true, q_ite_t, q_ite_f, beq_iff_eq, bne_iff_ne, q_ne, Nat.reduceAdd, Nat.reducePow, Int.reducePow, Nat.reduceMul, Nat.reduceSub, Nat.reduceLeDiff, Nat.reduceLT, Nat.reduceEqDiff, Int.reduceNeg, Int.reduceLT, Int.reduceLE, Int.reduceEq, Int.reduceNe, Int.reduceAdd, Int.reduceSub, Int.reduceMul, Int.reduceToNat, Int.reduceBEq, Int.reduceBNe, df44, ToC, placeG, memF_eq H, memF_set H, placeM, setM_self H, show ((20 : Int) == 0) = false from rfl, show ((1 : Int) == 0) = false from rfl, show ((0 : Int) == 0) = true from rfl, put, fillP, sub, List.take_succ_cons, List.take_zero, List.drop_zero, hp, h0, encEG, enF, he]
          exact hS
        | true =>
          have hu := (En.w_uu he).1
          simp only [he, cond_true] at hS
          simp (config := { maxSteps := 10000000 }) only [run_drx, run_xd, run_xq, run_xg, run_xb, EV1, EV2, EV3, EV4, EV5, EV6, addT, istep, lenR_sl, lenR_ns, lenR_es, pickR, putD, bin1R, un1R, slcR, bnd, capsOf, fillP, S_plain, V_plain, V.cells, S_known, V_known, C.v, blk, setL, setH, eqS, eq1, cmpS, cmp1, isNil, popTo, killT, setT, leT, V.below, C.below, S_below, R.below, V.val, C.val, S_val, R.val, R.takes, vals, shows, List.any_cons, List.any_nil, unnamed, V.kill, V.names, C.names, S_names, R.names, List.set, List.replicate, ↓q_cond_t, ↓q_cond_f, if_true, if_false, reduceCtorEq, rvals, rvC, result, C_known, V.noL, C.noL, S_noL, R.noL, Option.map, true_and, and_true, ge_iff_le, gt_iff_lt, implies_true, q_ite_t, q_ite_f, beq_iff_eq, bne_iff_ne, q_ne, Nat.reduceAdd, Nat.reducePow, Int.reducePow, Nat.reduceMul, Nat.reduceSub, Nat.reduceLeDiff, Nat.reduceLT, Nat.reduceEqDiff, Int.reduceNeg, Int.reduceLT, Int.reduceLE, Int.reduceEq, Int.reduceNe, Int.reduceAdd, Int.reduceSub, Int.reduceMul, Int.reduceToNat, Int.reduceBEq, Int.reduceBNe, df44, ToC, placeG, memF_eq H, memF_set H, placeM, setM_self H, show ((20 : Int) == 0) = false from rfl, show ((1 : Int) == 0) = false from rfl, show ((0 : Int) == 0) = true from rfl, put, fillP, sub, List.take_succ_cons, List.take_zero, List.drop_zero, hp, h0, encEG, enF, he, hu, writeG, writeM]
          exact hS
      · have hi : in3 i 0 7 = false := by simp only [in3, Bool.and_eq_false_iff, decide_eq_false_iff_not]; omega
        have hp : plE m x 8 i 7 = 1 := by simp only [plE, ht, cond_true, hi, cond_false]
        simp only [hp, show ((20 : Int) == 0) = false from rfl, show ((1 : Int) == 0) = false from rfl, show ((0 : Int) == 0) = true from rfl, cond_false, Bool.false_and, setM_self H] at hS
        simp (config := { maxSteps := 10000000 }) only [run_drx, run_xd, run_xq, run_xg, run_xb, EV1, EV2, EV3, EV4, EV5, EV6, addT, istep, lenR_sl, lenR_ns, lenR_es, pickR, putD, bin1R, un1R, slcR, bnd, capsOf, fillP, S_plain, V_plain, V.cells, S_known, V_known, C.v, blk, setL, setH, eqS, eq1, cmpS, cmp1, isNil, popTo, killT, setT, leT, V.below, C.below, S_below, R.below, V.val, C.val, S_val, R.val, R.takes, vals, shows, List.any_cons, List.any_nil, unnamed, V.kill, V.names, C.names, S_names, R.names, List.set, List.replicate, ↓q_cond_t, ↓q_cond_f, if_true, if_false, reduceCtorEq, rvals, rvC, result, C_known, V.noL, C.noL, S_noL, R.noL, Option.map, true_and, and_true, ge_iff_le, gt_iff_lt, implies_true, q_ite_t, q_ite_f, beq_iff_eq, bne_iff_ne, q_ne, Nat.reduceAdd, Nat.reducePow, Int.reducePow, Nat.reduceMul, Nat.reduceSub, Nat.reduceLeDiff, Nat.reduceLT, Nat.reduceEqDiff, Int.reduceNeg, Int.reduceLT, Int.reduceLE, Int.reduceEq, Int.reduceNe, Int.reduceAdd, Int.reduceSub, Int.reduceMul, Int.reduceToNat, Int.reduceBEq, Int.reduceBNe, df44, ToC, placeG, memF_eq H, memF_set H, placeM, setM_self H, show ((20 : Int) == 0) = false from rfl, show ((1 : Int) == 0) = false from rfl, show ((0 : Int) == 0) = true from rfl, put, fillP, sub, List.take_succ_cons, List.take_zero, List.drop_zero, hp]
        exact hS
  · exact hS.elim
theorem rtget_snd : Snd Try.prog 37 (FSpec.of rtgetG) := snd_run ToC_snd mixed Try.func37 dc37 300 fun args h K hc hS => by
  obtain ⟨a, b, m, rest, rfl, H, hS1⟩ := memF_spec hS
  clear hS
  have hS := hS1
  clear hS1
  unfold rtgetM at hS
  split at hS
  · rename_i x i
    simp only [spec_ok, M.rtE, M.rtV, M.plX] at hS
    have n4 : (0 : Int) < 8 ∧ (8 : Int) ≤ 64 := by decide
    have hl := m.l
    cases ht : otB m x 8 with
    | false =>
      have hp : plE m x 8 i 7 = 20 := by simp only [plE, ht, cond_false]
      simp only [hp, show ((20 : Int) == 0) = false from rfl, show ((1 : Int) == 0) = false from rfl, show ((0 : Int) == 0) = true from rfl, cond_false, Bool.false_and, setM_self H] at hS
      simp (config := { maxSteps := 10000000 }) only [run_drx, run_xd, run_xq, run_xg, run_xb, EV1, EV2, EV3, EV4, EV5, EV6, addT, istep, lenR_sl, lenR_ns, lenR_es, pickR, putD, bin1R, un1R, slcR, bnd, capsOf, fillP, S_plain, V_plain, V.cells, S_known, V_known, C.v, blk, setL, setH, eqS, eq1, cmpS, cmp1, isNil, popTo, killT, setT, leT, V.below, C.below, S_below, R.below, V.val, C.val, S_val, R.val, R.takes, vals, shows, List.any_cons, List.any_nil, unnamed, V.kill, V.names, C.names, S_names, R.names, List.set, List.replicate, ↓q_cond_t, ↓q_cond_f, if_true, if_false, reduceCtorEq, rvals, rvC, result, C_known, V.noL, C.noL, S_noL, R.noL, Option.map, true_and, and_true, ge_iff_le, gt_iff_lt, implies_true, q_ite_t, q_ite_f, beq_iff_eq, bne_iff_ne, q_ne, Nat.reduceAdd, Nat.reducePow, Int.reducePow, Nat.reduceMul, Nat.reduceSub, Nat.reduceLeDiff, Nat.reduceLT, Nat.reduceEqDiff, Int.reduceNeg, Int.reduceLT, Int.reduceLE, Int.reduceEq, Int.reduceNe, Int.reduceAdd, Int.reduceSub, Int.reduceMul, Int.reduceToNat, Int.reduceBEq, Int.reduceBNe, df37, ToC, placeG, memF_eq H, memF_set H, placeM, setM_self H, show ((20 : Int) == 0) = false from rfl, show ((1 : Int) == 0) = false from rfl, show ((0 : Int) == 0) = true from rfl, put, fillP, sub, List.take_succ_cons, List.take_zero, List.drop_zero, hp]
      exact hS
    | true =>
      have hb := otB_iff.1 ht
      by_cases c0 : 0 ≤ i ∧ i ≤ 7
      · have hp : plE m x 8 i 7 = 0 := by simp only [plE, ht, cond_true, in3_iff.2 c0]
        simp only [hp, show ((20 : Int) == 0) = false from rfl, show ((1 : Int) == 0) = false from rfl, show ((0 : Int) == 0) = true from rfl, cond_true, Bool.true_and] at hS
        have c1 : ¬ i < 0 := by omega
        have c2 : ¬ 7 < i := by omega
        have x1 : IntKind.i64.wrap (x + 32) = x + 32 := wrap64 (by omega) (by omega)
        have x2 : IntKind.i64.wrap (x + 32 + i) = x + 32 + i := wrap64 (by omega) (by omega)
        have x3 : IntKind.i64.wrap (x + i) = x + i := wrap64 (by omega) (by omega)
        have h0 : m.has (x + i) 1 = true := M.has_of (by omega)
        have hu := m.at_u (x + i)
        obtain ⟨w, hw⟩ : ∃ w, m.at (x + i) = w := ⟨_, rfl⟩
        rw [hw] at hu hS
        have hu2 : 0 ≤ w ∧ w < 18446744073709551616 := hu
        by_cases c3 : 65535 < w
        · have hk : rtOk w = false := by simp only [rtOk, Bool.and_eq_false_iff, decide_eq_false_iff_not]; omega
          simp only [hk, cond_false] at hS
          simp (config := { maxSteps := 10000000 }) only [run_drx, run_xd, run_xq, run_xg, run_xb, EV1, EV2, EV3, EV4, EV5, EV6, addT, istep, lenR_sl, lenR_ns, lenR_es, pickR, putD, bin1R, un1R, slcR, bnd, capsOf, fillP, S_plain, V_plain, V.cells, S_known, V_known, C.v, blk, setL, setH, eqS, eq1, cmpS, cmp1, isNil, popTo, killT, setT, leT, V.below, C.below, S_below, R.below, V.val, C.val, S_val, R.val, R.takes, vals, shows, List.any_cons, List.any_nil, unnamed, V.kill, V.names, C.names, S_names, R.names, List.set, List.replicate, ↓q_cond_t, ↓q_cond_f, if_true, if_false, reduceCtorEq, rvals, rvC, result, C_known, V.noL, C.noL, S_noL, R.noL, Option.map, true_and, and_true, ge_iff_le, gt_iff_lt, implies_true, q_ite_t, q_ite_f, beq_iff_eq, bne_iff_ne, q_ne, Nat.reduceAdd, Nat.reducePow, Int.reducePow, Nat.reduceMul, Nat.reduceSub, Nat.reduceLeDiff, Nat.reduceLT, Nat.reduceEqDiff, Int.reduceNeg, Int.reduceLT, Int.reduceLE, Int.reduceEq, Int.reduceNe, Int.reduceAdd, Int.reduceSub, Int.reduceMul, Int.reduceToNat, Int.reduceBEq, Int.reduceBNe, df37, ToC, placeG, memF_eq H, memF_set H, placeM, setM_self H, show ((20 : Int) == 0) = false from rfl, show ((1 : Int) == 0) = false from rfl, show ((0 : Int) == 0) = true from rfl, put, fillP, sub, List.take_succ_cons, List.take_zero, List.drop_zero, hp, h0, readG, readM, hw, c3]
          exact hS
        · have i1 : IntKind.i64.wrap w = w := wrap64 (by omega) (by omega)
          have c4 : decide (w ≤ 65535) = true := by simp; omega
          cases he : rootB w with
          | false =>
            simp only [rtOk, he, Bool.and_false, cond_false] at hS
            simp (config := { maxSteps := 10000000 }) only [run_drx, run_xd, run_xq, run_xg, run_xb, EV1, EV2, EV3, EV4, EV5, EV6, addT, istep, lenR_sl, lenR_ns, lenR_es, pickR, putD, bin1R, un1R, slcR, bnd, capsOf, fillP, S_plain, V_plain, V.cells, S_known, V_known, C.v, blk, setL, setH, eqS, eq1, cmpS, cmp1, isNil, popTo, killT, setT, leT, V.below, C.below, S_below, R.below, V.val, C.val, S_val, R.val, R.takes, vals, shows, List.any_cons, List.any_nil, unnamed, V.kill, V.names, C.names, S_names, R.names, List.set, List.replicate, ↓q_cond_t, ↓q_cond_f, if_true, if_false, reduceCtorEq, rvals, rvC, result, C_known, V.noL, C.noL, S_noL, R.noL, Option.map, true_and, and_true, ge_iff_le, gt_iff_lt, implies_true, q_ite_t, q_ite_f, beq_iff_eq, bne_iff_ne, q_ne, Nat.reduceAdd, Nat.reducePow, Int.reducePow, Nat.reduceMul, Nat.reduceSub, Nat.reduceLeDiff, Nat.reduceLT, Nat.reduceEqDiff, Int.reduceNeg, Int.reduceLT, Int.reduceLE, Int.reduceEq, Int.reduceNe, Int.reduceAdd, Int.reduceSub, Int.reduceMul, Int.reduceToNat, Int.reduceBEq, Int.reduceBNe, df37, ToC, placeG, memF_eq H, memF_set H, placeM, setM_self H, show ((20 : Int) == 0) = false from rfl, show ((1 : Int) == 0) = false from rfl, show ((0 : Int) == 0) = true from rfl, put, fillP, sub, List.take_succ_cons, List.take_zero, List.drop_zero, hp, h0, readG, readM, hw, c3, i1, rootedG, he]
            exact hS
          | true =>
            simp only [rtOk, he, c4, Bool.and_true, cond_true] at hS
            simp (config := { maxSteps := 10000000 }) only [run_drx, run_xd, run_xq, run_xg, run_xb, EV1, EV2, EV3, EV4, EV5, EV6, addT, istep, lenR_sl, lenR_ns, lenR_es, pickR, putD, bin1R, un1R, slcR, bnd, capsOf, fillP, S_plain, V_plain, V.cells, S_known, V_known, C.v, blk, setL, setH, eqS, eq1, cmpS, cmp1, isNil, popTo, killT, setT, leT, V.below, C.below, S_below, R.below, V.val, C.val, S_val, R.val, R.takes, vals, shows, List.any_cons, List.any_nil, unnamed, V.kill, V.names, C.names, S_names, R.names, List.set, List.replicate, ↓q_cond_t, ↓q_cond_f, if_true, if_false, reduceCtorEq, rvals, rvC, result, C_known, V.noL, C.noL, S_noL, R.noL, Option.map, true_and, and_true, ge_iff_le, gt_iff_lt, implies_true, q_ite_t, q_ite_f, beq_iff_eq, bne_iff_ne, q_ne, Nat.reduceAdd, Nat.reducePow, Int.reducePow, Nat.reduceMul, Nat.reduceSub, Nat.reduceLeDiff, Nat.reduceLT, Nat.reduceEqDiff, Int.reduceNeg, Int.reduceLT, Int.reduceLE, Int.reduceEq, Int.reduceNe, Int.reduceAdd, Int.reduceSub, Int.reduceMul, Int.reduceToNat, Int.reduceBEq, Int.reduceBNe, df37, ToC, placeG, memF_eq H, memF_set H, placeM, setM_self H, show ((20 : Int) == 0) = false from rfl, show ((1 : Int) == 0) = false from rfl, show ((0 : Int) == 0) = true from rfl, put, fillP, sub, List.take_succ_cons, List.take_zero, List.drop_zero, hp, h0, readG, readM, hw, c3, i1, rootedG, he]
            exact hS
      · have hi : in3 i 0 7 = false := by simp only [in3, Bool.and_eq_false_iff, decide_eq_false_iff_not]; omega
        have hp : plE m x 8 i 7 = 1 := by simp only [plE, ht, cond_true, hi, cond_false]
        simp only [hp, show ((20 : Int) == 0) = false from rfl, show ((1 : Int) == 0) = false from rfl, show ((0 : Int) == 0) = true from rfl, cond_false, Bool.false_and, setM_self H] at hS
        simp (config := { maxSteps := 10000000 }) only [run_drx, run_xd, run_xq, run_xg, run_xb, EV1, EV2, EV3, EV4, EV5, EV6, addT, istep, lenR_sl, lenR_ns, lenR_es, pickR, putD, bin1R, un1R, slcR, bnd, capsOf, fillP, S_plain, V_plain, V.cells, S_known, V_known, C.v, blk, setL, setH, eqS, eq1, cmpS, cmp1, isNil, popTo, killT, setT, leT, V.below, C.below, S_below, R.below, V.val, C.val, S_val, R.val, R.takes, vals, shows, List.any_cons, List.any_nil, unnamed, V.kill, V.names, C.names, S_names, R.names, List.set, List.replicate, ↓q_cond_t, ↓q_cond_f, if_true, if_false, reduceCtorEq, rvals, rvC, result, C_known, V.noL, C.noL, S_noL, R.noL, Option.map, true_and, and_true, ge_iff_le, gt_iff_lt, implies_true, q_ite_t, q_ite_f, beq_iff_eq, bne_iff_ne, q_ne, Nat.reduceAdd, Nat.reducePow, Int.reducePow, Nat.reduceMul, Nat.reduceSub, Nat.reduceLeDiff, Nat.reduceLT, Nat.reduceEqDiff, Int.reduceNeg, Int.reduceLT, Int.reduceLE, Int.reduceEq, Int.reduceNe, Int.reduceAdd, Int.reduceSub, Int.reduceMul, Int.reduceToNat, Int.reduceBEq, Int.reduceBNe, df37, ToC, placeG, memF_eq H, memF_set H, placeM, setM_self H, show ((20 : Int) == 0) = false from rfl, show ((1 : Int) == 0) = false from rfl, show ((0 : Int) == 0) = true from rfl, put, fillP, sub, List.take_succ_cons, List.take_zero, List.drop_zero, hp]
        exact hS
  · exact hS.elim
theorem rtset_snd : Snd Try.prog 45 (FSpec.of rtsetG) := snd_run ToC_snd mixed Try.func45 dc45 300 fun args h K hc hS => by
  obtain ⟨a, b, m, rest, rfl, H, hS1⟩ := memF_spec hS
  clear hS
  have hS := hS1
  clear hS1
  unfold rtsetM at hS
  split at hS
  · rename_i x i n
    simp only [spec_ok, M.tsE, M.tsX] at hS
    have n4 : (0 : Int) < 8 ∧ (8 : Int) ≤ 64 := by decide
    have hl := m.l
    cases ht : otB m x 8 with
    | false =>
      have hp : plE m x 8 i 7 = 20 := by simp only [plE, ht, cond_false]
      simp only [hp, show ((20 : Int) == 0) = false from rfl, show ((1 : Int) == 0) = false from rfl, show ((0 : Int) == 0) = true from rfl, cond_false, Bool.false_and, setM_self H] at hS
      simp (config := { maxSteps := 10000000 }) only [run_drx, run_xd, run_xq, run_xg, run_xb, EV1, EV2, EV3, EV4, EV5, EV6, addT, istep, lenR_sl, lenR_ns, lenR_es, pickR, putD, bin1R, un1R, slcR, bnd, capsOf, fillP, S_plain, V_plain, V.cells, S_known, V_known, C.v, blk, setL, setH, eqS, eq1, cmpS, cmp1, isNil, popTo, killT, setT, leT, V.below, C.below, S_below, R.below, V.val, C.val, S_val, R.val, R.takes, vals, shows, List.any_cons, List.any_nil, unnamed, V.kill, V.names, C.names, S_names, R.names, List.set, List.replicate, ↓q_cond_t, ↓q_cond_f, if_true, if_false, reduceCtorEq, rvals, rvC, result, C_known, V.noL, C.noL, S_noL, R.noL, Option.map, true_and, and_true, ge_iff_le, gt_iff_lt, implies_true, q_ite_t, q_ite_f, beq_iff_eq, bne_iff_ne, q_ne, Nat.reduceAdd, Nat.reducePow, Int.reducePow, Nat.reduceMul, Nat.reduceSub, Nat.reduceLeDiff, Nat.reduceLT, Nat.reduceEqDiff, Int.reduceNeg, Int.reduceLT, Int.reduceLE, Int.reduceEq, Int.reduceNe, Int.reduceAdd, Int.reduceSub, Int.reduceMul, Int.reduceToNat, Int.reduceBEq, Int.reduceBNe, df45, ToC, placeG, memF_eq H, memF_set H, placeM, setM_self H, show ((20 : Int) == 0) = false from rfl, show ((1 : Int) == 0) = false from rfl, show ((0 : Int) == 0) = true from rfl, put, fillP, sub, List.take_succ_cons, List.take_zero, List.drop_zero, hp]
      exact hS
    | true =>
      have hb := otB_iff.1 ht
      by_cases c0 : 0 ≤ i ∧ i ≤ 7
      · have hp : plE m x 8 i 7 = 0 := by simp only [plE, ht, cond_true, in3_iff.2 c0]
        simp only [hp, show ((20 : Int) == 0) = false from rfl, show ((1 : Int) == 0) = false from rfl, show ((0 : Int) == 0) = true from rfl, cond_true, Bool.true_and] at hS
        have c1 : ¬ i < 0 := by omega
        have c2 : ¬ 7 < i := by omega
        have x1 : IntKind.i64.wrap (x + 32) = x + 32 := wrap64 (by omega) (by omega)
        have x2 : IntKind.i64.wrap (x + 32 + i) = x + 32 + i := wrap64 (by omega) (by omega)
        have x3 : IntKind.i64.wrap (x + i) = x + i := wrap64 (by omega) (by omega)
        have h0 : m.has (x + i) 1 = true := M.has_of (by omega)
        cases he : rootB n with
        | false =>
          simp only [he, cond_false, setM_self H] at hS
          simp (config := { maxSteps := 10000000 }) only [run_drx, run_xd, run_xq, run_xg, run_xb, EV1, EV2, EV3, EV4, EV5, EV6, addT, istep, lenR_sl, lenR_ns, lenR_es, pickR, putD, bin1R, un1R, slcR, bnd, capsOf, fillP, S_plain, V_plain, V.cells, S_known, V_known, C.v, blk, setL, setH, eqS, eq1, cmpS, cmp1, isNil, popTo, killT, setT, leT, V.below, C.below, S_below, R.below, V.val, C.val, S_val, R.val, R.takes, vals, shows, List.any_cons, List.any_nil, unnamed, V.kill, V.names, C.names, S_names, R.names, List.set, List.replicate, ↓q_cond_t, ↓q_cond_f, if_true, if_false, reduceCtorEq, rvals, rvC, result, C_known, V.noL, C.noL, S_noL, R.noL, Option.map, true_and, and_true, ge_iff_le, gt_iff_lt, implies_true, q_ite_t, q_ite_f, beq_iff_eq, bne_iff_ne, q_ne, Nat.reduceAdd, Nat.reducePow, Int.reducePow, Nat.reduceMul, Nat.reduceSub, Nat.reduceLeDiff, Nat.reduceLT, Nat.reduceEqDiff, Int.reduceNeg, Int.reduceLT, Int.reduceLE, Int.reduceEq, Int.reduceNe, Int.reduceAdd, Int.reduceSub, Int.reduceMul, Int.reduceToNat, Int.reduceBEq, Int.reduceBNe, df45, ToC, placeG, memF_eq H, memF_set H, placeM, setM_self H, show ((20 : Int) == 0) = false from rfl, show ((1 : Int) == 0) = false from rfl, show ((0 : Int) == 0) = true from rfl, put, fillP, sub, List.take_succ_cons, List.take_zero, List.drop_zero, hp, h0, rootedG, he]
          exact hS
        | true =>
          have h3 := rootB_iff.1 he
          have hu : u64 n := by simp only [u64]; omega
          have i1 : IntKind.u64.wrap n = n := wrapu (by omega) (by omega)
          simp only [he, cond_true] at hS
          simp (config := { maxSteps := 10000000 }) only [run_drx, run_xd, run_xq, run_xg, run_xb, EV1, EV2, EV3, EV4, EV5, EV6, addT, istep, lenR_sl, lenR_ns, lenR_es, pickR, putD, bin1R, un1R, slcR, bnd, capsOf, fillP, S_plain, V_plain, V.cells, S_known, V_known, C.v, blk, setL, setH, eqS, eq1, cmpS, cmp1, isNil, popTo, killT, setT, leT, V.below, C.below, S_below, R.below, V.val, C.val, S_val, R.val, R.takes, vals, shows, List.any_cons, List.any_nil, unnamed, V.kill, V.names, C.names, S_names, R.names, List.set, List.replicate, ↓q_cond_t, ↓q_cond_f, if_true, if_false, reduceCtorEq, rvals, rvC, result, C_known, V.noL, C.noL, S_noL, R.noL, Option.map, true_and, and_true, ge_iff_le, gt_iff_lt, implies_true, q_ite_t, q_ite_f, beq_iff_eq, bne_iff_ne, q_ne, Nat.reduceAdd, Nat.reducePow, Int.reducePow, Nat.reduceMul, Nat.reduceSub, Nat.reduceLeDiff, Nat.reduceLT, Nat.reduceEqDiff, Int.reduceNeg, Int.reduceLT, Int.reduceLE, Int.reduceEq, Int.reduceNe, Int.reduceAdd, Int.reduceSub, Int.reduceMul, Int.reduceToNat, Int.reduceBEq, Int.reduceBNe, df45, ToC, placeG, memF_eq H, memF_set H, placeM, setM_self H, show ((20 : Int) == 0) = false from rfl, show ((1 : Int) == 0) = false from rfl, show ((0 : Int) == 0) = true from rfl, put, fillP, sub, List.take_succ_cons, List.take_zero, List.drop_zero, hp, h0, rootedG, he, i1, hu, writeG, writeM]
          exact hS
      · have hi : in3 i 0 7 = false := by simp only [in3, Bool.and_eq_false_iff, decide_eq_false_iff_not]; omega
        have hp : plE m x 8 i 7 = 1 := by simp only [plE, ht, cond_true, hi, cond_false]
        simp only [hp, show ((20 : Int) == 0) = false from rfl, show ((1 : Int) == 0) = false from rfl, show ((0 : Int) == 0) = true from rfl, cond_false, Bool.false_and, setM_self H] at hS
        simp (config := { maxSteps := 10000000 }) only [run_drx, run_xd, run_xq, run_xg, run_xb, EV1, EV2, EV3, EV4, EV5, EV6, addT, istep, lenR_sl, lenR_ns, lenR_es, pickR, putD, bin1R, un1R, slcR, bnd, capsOf, fillP, S_plain, V_plain, V.cells, S_known, V_known, C.v, blk, setL, setH, eqS, eq1, cmpS, cmp1, isNil, popTo, killT, setT, leT, V.below, C.below, S_below, R.below, V.val, C.val, S_val, R.val, R.takes, vals, shows, List.any_cons, List.any_nil, unnamed, V.kill, V.names, C.names, S_names, R.names, List.set, List.replicate, ↓q_cond_t, ↓q_cond_f, if_true, if_false, reduceCtorEq, rvals, rvC, result, C_known, V.noL, C.noL, S_noL, R.noL, Option.map, true_and, and_true, ge_iff_le, gt_iff_lt, implies_true, q_ite_t, q_ite_f, beq_iff_eq, bne_iff_ne, q_ne, Nat.reduceAdd, Nat.reducePow, Int.reducePow, Nat.reduceMul, Nat.reduceSub, Nat.reduceLeDiff, Nat.reduceLT, Nat.reduceEqDiff, Int.reduceNeg, Int.reduceLT, Int.reduceLE, Int.reduceEq, Int.reduceNe, Int.reduceAdd, Int.reduceSub, Int.reduceMul, Int.reduceToNat, Int.reduceBEq, Int.reduceBNe, df45, ToC, placeG, memF_eq H, memF_set H, placeM, setM_self H, show ((20 : Int) == 0) = false from rfl, show ((1 : Int) == 0) = false from rfl, show ((0 : Int) == 0) = true from rfl, put, fillP, sub, List.take_succ_cons, List.take_zero, List.drop_zero, hp]
        exact hS
  · exact hS.elim
end Go.Proofs.Ytdlloccodmdnnaa

