/- The machine's memory: Copy; the document's Fill, Copy, Dump. -/
import Derived.Test.YtdlloccodmdnnaaZ10
import Derived.Test.YtdlloccodmdnnaaZ24
import Derived.Test.YtdlloccodmdnnaaZ22
/- Cspace: Slot, Cap, Mask; the examples' caps. -/
namespace Go.Proofs.Ytdlloccodmdnnaa
open Go.D
set_option linter.all false
set_option maxRecDepth 100000
set_option maxHeartbeats 8000000

def RW.slE (x : RW) : Int := if x.e = 0 then (if 0 < x.l then 101 else 0) else x.e
def RW.slV (x : RW) : Int := if x.e = 0 then (if 0 < x.l then 0 else x.s) else 0
def sltM (d : Bool) (b : Nat) (m : M) (st : M → List Blk) : List V → Res
  | [x, .s (.i .u64 w), .s (.i .i64 n)] => capF (fun c => .ob (u64 w) (.ok (.tup [.s (.i .i64 (rsl d m c w n).slV), .s (.i .i64 (rsl d m c w n).slE)]) [] (st (rsl d m c w n).m))) [x]
  | _ => .bad
noncomputable def sltG (d : Bool) := memF (sltM d)
noncomputable def Tslt_snd : Tab := addT 16 (rslG false) (noT)
theorem Tslt_snd_snd : Tslt_snd.Snd Try.prog := addT_snd ok16 rsl_snd ((noT_snd _))
theorem slt_snd : Snd Try.prog 22 (FSpec.of (sltG false)) := snd_run Tslt_snd_snd mixed Try.func22 dc22 300 fun args h K hc hS => by
  obtain ⟨a, b, m, rest, rfl, H, hS1⟩ := memF_spec hS
  clear hS
  have hS := hS1
  clear hS1
  unfold sltM at hS
  split at hS
  · rename_i x w n
    obtain ⟨c, e, hu, hR⟩ := capF_spec hS
    clear hS
    simp only [List.cons.injEq, and_true] at e
    subst e
    simp only [spec_ok, RW.slE, RW.slV] at hR
    obtain ⟨y, hy⟩ : ∃ y, rsl false m c w n = y := ⟨_, rfl⟩
    rw [hy] at hR
    simp only [Cap.cl]
    by_cases h1 : y.e = 0
    · have h1' : (y.e != 0) = false := by simpa using h1
      simp only [h1, if_true] at hR
      by_cases h2 : 0 < y.l
      · simp only [h2, if_true] at hR
        simp (config := { maxSteps := 10000000 }) only [EV1, EV2, EV3, EV4, EV5, EV6, addT, istep, lenR_sl, lenR_ns, lenR_es, pickR, putD, bin1R, un1R, slcR, bnd, capsOf, fillP, S_plain, V_plain, V.cells, S_known, V_known, C.v, blk, setL, setH, eqS, eq1, cmpS, cmp1, isNil, popTo, killT, setT, leT, V.below, C.below, S_below, R.below, V.val, C.val, S_val, R.val, R.takes, vals, shows, List.any_cons, List.any_nil, unnamed, V.kill, V.names, C.names, S_names, R.names, List.set, List.replicate, ↓q_cond_t, ↓q_cond_f, if_true, if_false, reduceCtorEq, rvals, rvC, result, C_known, V.noL, C.noL, S_noL, R.noL, Option.map, true_and, and_true, ge_iff_le, gt_iff_lt, implies_true, q_ite_t, q_ite_f, beq_iff_eq, bne_iff_ne, q_ne, Nat.reduceAdd, Nat.reducePow, Int.reducePow, Nat.reduceMul, Nat.reduceSub, Nat.reduceLeDiff, Nat.reduceLT, Nat.reduceEqDiff, Int.reduceNeg, Int.reduceLT, Int.reduceLE, Int.reduceEq, Int.reduceNe, Int.reduceAdd, Int.reduceSub, Int.reduceMul, Int.reduceToNat, Int.reduceBEq, Int.reduceBNe, df22, Tslt_snd, rslG, memF_eq H, rslM, capF, cap_eta, hu, hy, RW.v, h1, h2, sub, List.take_succ_cons, List.take_zero, List.drop_zero]
        exact hR
      · simp only [h2, if_false] at hR
        simp (config := { maxSteps := 10000000 }) only [EV1, EV2, EV3, EV4, EV5, EV6, addT, istep, lenR_sl, lenR_ns, lenR_es, pickR, putD, bin1R, un1R, slcR, bnd, capsOf, fillP, S_plain, V_plain, V.cells, S_known, V_known, C.v, blk, setL, setH, eqS, eq1, cmpS, cmp1, isNil, popTo, killT, setT, leT, V.below, C.below, S_below, R.below, V.val, C.val, S_val, R.val, R.takes, vals, shows, List.any_cons, List.any_nil, unnamed, V.kill, V.names, C.names, S_names, R.names, List.set, List.replicate, ↓q_cond_t, ↓q_cond_f, if_true, if_false, reduceCtorEq, rvals, rvC, result, C_known, V.noL, C.noL, S_noL, R.noL, Option.map, true_and, and_true, ge_iff_le, gt_iff_lt, implies_true, q_ite_t, q_ite_f, beq_iff_eq, bne_iff_ne, q_ne, Nat.reduceAdd, Nat.reducePow, Int.reducePow, Nat.reduceMul, Nat.reduceSub, Nat.reduceLeDiff, Nat.reduceLT, Nat.reduceEqDiff, Int.reduceNeg, Int.reduceLT, Int.reduceLE, Int.reduceEq, Int.reduceNe, Int.reduceAdd, Int.reduceSub, Int.reduceMul, Int.reduceToNat, Int.reduceBEq, Int.reduceBNe, df22, Tslt_snd, rslG, memF_eq H, rslM, capF, cap_eta, hu, hy, RW.v, h1, h2, sub, List.take_succ_cons, List.take_zero, List.drop_zero]
        exact hR
    · have h1' : (y.e != 0) = true := by simpa using h1
      simp only [h1, if_false] at hR
      simp (config := { maxSteps := 10000000 }) only [EV1, EV2, EV3, EV4, EV5, EV6, addT, istep, lenR_sl, lenR_ns, lenR_es, pickR, putD, bin1R, un1R, slcR, bnd, capsOf, fillP, S_plain, V_plain, V.cells, S_known, V_known, C.v, blk, setL, setH, eqS, eq1, cmpS, cmp1, isNil, popTo, killT, setT, leT, V.below, C.below, S_below, R.below, V.val, C.val, S_val, R.val, R.takes, vals, shows, List.any_cons, List.any_nil, unnamed, V.kill, V.names, C.names, S_names, R.names, List.set, List.replicate, ↓q_cond_t, ↓q_cond_f, if_true, if_false, reduceCtorEq, rvals, rvC, result, C_known, V.noL, C.noL, S_noL, R.noL, Option.map, true_and, and_true, ge_iff_le, gt_iff_lt, implies_true, q_ite_t, q_ite_f, beq_iff_eq, bne_iff_ne, q_ne, Nat.reduceAdd, Nat.reducePow, Int.reducePow, Nat.reduceMul, Nat.reduceSub, Nat.reduceLeDiff, Nat.reduceLT, Nat.reduceEqDiff, Int.reduceNeg, Int.reduceLT, Int.reduceLE, Int.reduceEq, Int.reduceNe, Int.reduceAdd, Int.reduceSub, Int.reduceMul, Int.reduceToNat, Int.reduceBEq, Int.reduceBNe, df22, Tslt_snd, rslG, memF_eq H, rslM, capF, cap_eta, hu, hy, RW.v, h1, h1', sub, List.take_succ_cons, List.take_zero, List.drop_zero]
      exact hR
  · exact hS.elim
noncomputable def Trslt_snd : Tab := addT 21 (rslG true) (noT)
theorem Trslt_snd_snd : Trslt_snd.Snd Try.prog := addT_snd ok21 rrsl_snd ((noT_snd _))
theorem rslt_snd : Snd Try.prog 23 (FSpec.of (sltG true)) := snd_run Trslt_snd_snd mixed Try.func23 dc23 300 fun args h K hc hS => by
  obtain ⟨a, b, m, rest, rfl, H, hS1⟩ := memF_spec hS
  clear hS
  have hS := hS1
  clear hS1
  unfold sltM at hS
  split at hS
  · rename_i x w n
    obtain ⟨c, e, hu, hR⟩ := capF_spec hS
    clear hS
    simp only [List.cons.injEq, and_true] at e
    subst e
    simp only [spec_ok, RW.slE, RW.slV] at hR
    obtain ⟨y, hy⟩ : ∃ y, rsl true m c w n = y := ⟨_, rfl⟩
    rw [hy] at hR
    simp only [Cap.cl]
    by_cases h1 : y.e = 0
    · have h1' : (y.e != 0) = false := by simpa using h1
      simp only [h1, if_true] at hR
      by_cases h2 : 0 < y.l
      · simp only [h2, if_true] at hR
        simp (config := { maxSteps := 10000000 }) only [EV1, EV2, EV3, EV4, EV5, EV6, addT, istep, lenR_sl, lenR_ns, lenR_es, pickR, putD, bin1R, un1R, slcR, bnd, capsOf, fillP, S_plain, V_plain, V.cells, S_known, V_known, C.v, blk, setL, setH, eqS, eq1, cmpS, cmp1, isNil, popTo, killT, setT, leT, V.below, C.below, S_below, R.below, V.val, C.val, S_val, R.val, R.takes, vals, shows, List.any_cons, List.any_nil, unnamed, V.kill, V.names, C.names, S_names, R.names, List.set, List.replicate, ↓q_cond_t, ↓q_cond_f, if_true, if_false, reduceCtorEq, rvals, rvC, result, C_known, V.noL, C.noL, S_noL, R.noL, Option.map, true_and, and_true, ge_iff_le, gt_iff_lt, implies_true, q_ite_t, q_ite_f, beq_iff_eq, bne_iff_ne, q_ne, Nat.reduceAdd, Nat.reducePow, Int.reducePow, Nat.reduceMul, Nat.reduceSub, Nat.reduceLeDiff, Nat.reduceLT, Nat.reduceEqDiff, Int.reduceNeg, Int.reduceLT, Int.reduceLE, Int.reduceEq, Int.reduceNe, Int.reduceAdd, Int.reduceSub, Int.reduceMul, Int.reduceToNat, Int.reduceBEq, Int.reduceBNe, df23, Trslt_snd, rslG, memF_eq H, rslM, capF, cap_eta, hu, hy, RW.v, h1, h2, sub, List.take_succ_cons, List.take_zero, List.drop_zero]
        exact hR
      · simp only [h2, if_false] at hR
        simp (config := { maxSteps := 10000000 }) only [EV1, EV2, EV3, EV4, EV5, EV6, addT, istep, lenR_sl, lenR_ns, lenR_es, pickR, putD, bin1R, un1R, slcR, bnd, capsOf, fillP, S_plain, V_plain, V.cells, S_known, V_known, C.v, blk, setL, setH, eqS, eq1, cmpS, cmp1, isNil, popTo, killT, setT, leT, V.below, C.below, S_below, R.below, V.val, C.val, S_val, R.val, R.takes, vals, shows, List.any_cons, List.any_nil, unnamed, V.kill, V.names, C.names, S_names, R.names, List.set, List.replicate, ↓q_cond_t, ↓q_cond_f, if_true, if_false, reduceCtorEq, rvals, rvC, result, C_known, V.noL, C.noL, S_noL, R.noL, Option.map, true_and, and_true, ge_iff_le, gt_iff_lt, implies_true, q_ite_t, q_ite_f, beq_iff_eq, bne_iff_ne, q_ne, Nat.reduceAdd, Nat.reducePow, Int.reducePow, Nat.reduceMul, Nat.reduceSub, Nat.reduceLeDiff, Nat.reduceLT, Nat.reduceEqDiff, Int.reduceNeg, Int.reduceLT, Int.reduceLE, Int.reduceEq, Int.reduceNe, Int.reduceAdd, Int.reduceSub, Int.reduceMul, Int.reduceToNat, Int.reduceBEq, Int.reduceBNe, df23, Trslt_snd, rslG, memF_eq H, rslM, capF, cap_eta, hu, hy, RW.v, h1, h2, sub, List.take_succ_cons, List.take_zero, List.drop_zero]
        exact hR
    · have h1' : (y.e != 0) = true := by simpa using h1
      simp only [h1, if_false] at hR
      simp (config := { maxSteps := 10000000 }) only [EV1, EV2, EV3, EV4, EV5, EV6, addT, istep, lenR_sl, lenR_ns, lenR_es, pickR, putD, bin1R, un1R, slcR, bnd, capsOf, fillP, S_plain, V_plain, V.cells, S_known, V_known, C.v, blk, setL, setH, eqS, eq1, cmpS, cmp1, isNil, popTo, killT, setT, leT, V.below, C.below, S_below, R.below, V.val, C.val, S_val, R.val, R.takes, vals, shows, List.any_cons, List.any_nil, unnamed, V.kill, V.names, C.names, S_names, R.names, List.set, List.replicate, ↓q_cond_t, ↓q_cond_f, if_true, if_false, reduceCtorEq, rvals, rvC, result, C_known, V.noL, C.noL, S_noL, R.noL, Option.map, true_and, and_true, ge_iff_le, gt_iff_lt, implies_true, q_ite_t, q_ite_f, beq_iff_eq, bne_iff_ne, q_ne, Nat.reduceAdd, Nat.reducePow, Int.reducePow, Nat.reduceMul, Nat.reduceSub, Nat.reduceLeDiff, Nat.reduceLT, Nat.reduceEqDiff, Int.reduceNeg, Int.reduceLT, Int.reduceLE, Int.reduceEq, Int.reduceNe, Int.reduceAdd, Int.reduceSub, Int.reduceMul, Int.reduceToNat, Int.reduceBEq, Int.reduceBNe, df23, Trslt_snd, rslG, memF_eq H, rslM, capF, cap_eta, hu, hy, RW.v, h1, h1', sub, List.take_succ_cons, List.take_zero, List.drop_zero]
      exact hR
  · exact hS.elim

/-- What a cap's lookup tells. -/
structure RC where
  c : Cap
  s : Int
  e : Int
  m : M
def RC.v (x : RC) : V := .tup [.agg x.c.cl, .s (.i .i64 x.s), .s (.i .i64 x.e)]
def RW.cap (x : RW) : RC :=
  if ¬ x.e = 0 then ⟨capZ, 0, x.e, x.m⟩
  else if ¬ x.m.getE x.s = 0 then ⟨capZ, 0, 100, x.m.getX x.s⟩
  else if (x.m.getV x.s).cap.ty = 0 then ⟨capZ, 0, 100, x.m.getX x.s⟩
  else ⟨(x.m.getV x.s).cap, x.s, 0, x.m.getX x.s⟩
def capOM (d : Bool) (b : Nat) (m : M) (st : M → List Blk) : List V → Res
  | [x, .s (.i .u64 w)] => capF (fun c => .ob (u64 w) (.ok (rsl d m c w 32).cap.v [] (st (rsl d m c w 32).cap.m))) [x]
  | _ => .bad
noncomputable def capOG (d : Bool) := memF (capOM d)
noncomputable def TcapO_snd : Tab := addT 16 (rslG false) (addT 57 get2G (noT))
theorem TcapO_snd_snd : TcapO_snd.Snd Try.prog := addT_snd ok16 rsl_snd (addT_snd ok57 get2_snd ((noT_snd _)))
theorem capO_snd : Snd Try.prog 24 (FSpec.of (capOG false)) := snd_run TcapO_snd_snd mixed Try.func24 dc24 300 fun args h K hc hS => by
  obtain ⟨a, b, m, rest, rfl, H, hS1⟩ := memF_spec hS
  clear hS
  have hS := hS1
  clear hS1
  unfold capOM at hS
  split at hS
  · rename_i x w
    obtain ⟨c, e, hu, hR⟩ := capF_spec hS
    clear hS
    simp only [List.cons.injEq, and_true] at e
    subst e
    simp only [spec_ok, RW.cap] at hR
    obtain ⟨y, hy⟩ : ∃ y, rsl false m c w 32 = y := ⟨_, rfl⟩
    rw [hy] at hR
    simp only [Cap.cl]
    by_cases h1 : y.e = 0
    case neg =>
      have h1' : (y.e != 0) = true := by simpa using h1
      simp only [h1, not_false_eq_true, if_true, RC.v, Cap.cl, capZ] at hR
      simp (config := { maxSteps := 10000000 }) only [EV1, EV2, EV3, EV4, EV5, EV6, addT, istep, lenR_sl, lenR_ns, lenR_es, pickR, putD, bin1R, un1R, slcR, bnd, capsOf, fillP, S_plain, V_plain, V.cells, S_known, V_known, C.v, blk, setL, setH, eqS, eq1, cmpS, cmp1, isNil, popTo, killT, setT, leT, V.below, C.below, S_below, R.below, V.val, C.val, S_val, R.val, R.takes, vals, shows, List.any_cons, List.any_nil, unnamed, V.kill, V.names, C.names, S_names, R.names, List.set, List.replicate, ↓q_cond_t, ↓q_cond_f, if_true, if_false, reduceCtorEq, rvals, rvC, result, C_known, V.noL, C.noL, S_noL, R.noL, Option.map, true_and, and_true, ge_iff_le, gt_iff_lt, implies_true, q_ite_t, q_ite_f, beq_iff_eq, bne_iff_ne, q_ne, Nat.reduceAdd, Nat.reducePow, Int.reducePow, Nat.reduceMul, Nat.reduceSub, Nat.reduceLeDiff, Nat.reduceLT, Nat.reduceEqDiff, Int.reduceNeg, Int.reduceLT, Int.reduceLE, Int.reduceEq, Int.reduceNe, Int.reduceAdd, Int.reduceSub, Int.reduceMul, Int.reduceToNat, Int.reduceBEq, Int.reduceBNe, df24, TcapO_snd, rslG, memF_eq H, rslM, capF, cap_eta, hu, hy, RW.v, h1', sub, put, fillP, List.take_succ_cons, List.take_zero, List.drop_zero]
      exact hR
    have h1' : (y.e != 0) = false := by simpa using h1
    obtain ⟨s, hs⟩ : ∃ s, y.m.getV y.s = s := ⟨_, rfl⟩
    obtain ⟨e, he⟩ : ∃ e, y.m.getE y.s = e := ⟨_, rfl⟩
    simp only [h1, not_true_eq_false, if_false, hs, he] at hR
    by_cases h2 : e = 0
    case neg =>
      have h2' : (e != 0) = true := by simpa using h2
      simp only [h2, not_false_eq_true, if_true, RC.v, Cap.cl, capZ] at hR
      simp (config := { maxSteps := 10000000 }) only [EV1, EV2, EV3, EV4, EV5, EV6, addT, istep, lenR_sl, lenR_ns, lenR_es, pickR, putD, bin1R, un1R, slcR, bnd, capsOf, fillP, S_plain, V_plain, V.cells, S_known, V_known, C.v, blk, setL, setH, eqS, eq1, cmpS, cmp1, isNil, popTo, killT, setT, leT, V.below, C.below, S_below, R.below, V.val, C.val, S_val, R.val, R.takes, vals, shows, List.any_cons, List.any_nil, unnamed, V.kill, V.names, C.names, S_names, R.names, List.set, List.replicate, ↓q_cond_t, ↓q_cond_f, if_true, if_false, reduceCtorEq, rvals, rvC, result, C_known, V.noL, C.noL, S_noL, R.noL, Option.map, true_and, and_true, ge_iff_le, gt_iff_lt, implies_true, q_ite_t, q_ite_f, beq_iff_eq, bne_iff_ne, q_ne, Nat.reduceAdd, Nat.reducePow, Int.reducePow, Nat.reduceMul, Nat.reduceSub, Nat.reduceLeDiff, Nat.reduceLT, Nat.reduceEqDiff, Int.reduceNeg, Int.reduceLT, Int.reduceLE, Int.reduceEq, Int.reduceNe, Int.reduceAdd, Int.reduceSub, Int.reduceMul, Int.reduceToNat, Int.reduceBEq, Int.reduceBNe, df24, TcapO_snd, rslG, memF_eq H, rslM, capF, cap_eta, hu, hy, RW.v, h1', get2G, memF_set H, get2M, hs, he, h2', Slot.cl, sub, put, fillP, List.take_succ_cons, List.take_zero, List.drop_zero]
      exact hR
    have h2' : (e != 0) = false := by simpa using h2
    by_cases h3 : s.cap.ty = 0
    · have h3' : (s.cap.ty == 0) = true := by simpa using h3
      simp only [h2, h3, not_true_eq_false, if_true, if_false, RC.v, Cap.cl, capZ] at hR
      simp (config := { maxSteps := 10000000 }) only [EV1, EV2, EV3, EV4, EV5, EV6, addT, istep, lenR_sl, lenR_ns, lenR_es, pickR, putD, bin1R, un1R, slcR, bnd, capsOf, fillP, S_plain, V_plain, V.cells, S_known, V_known, C.v, blk, setL, setH, eqS, eq1, cmpS, cmp1, isNil, popTo, killT, setT, leT, V.below, C.below, S_below, R.below, V.val, C.val, S_val, R.val, R.takes, vals, shows, List.any_cons, List.any_nil, unnamed, V.kill, V.names, C.names, S_names, R.names, List.set, List.replicate, ↓q_cond_t, ↓q_cond_f, if_true, if_false, reduceCtorEq, rvals, rvC, result, C_known, V.noL, C.noL, S_noL, R.noL, Option.map, true_and, and_true, ge_iff_le, gt_iff_lt, implies_true, q_ite_t, q_ite_f, beq_iff_eq, bne_iff_ne, q_ne, Nat.reduceAdd, Nat.reducePow, Int.reducePow, Nat.reduceMul, Nat.reduceSub, Nat.reduceLeDiff, Nat.reduceLT, Nat.reduceEqDiff, Int.reduceNeg, Int.reduceLT, Int.reduceLE, Int.reduceEq, Int.reduceNe, Int.reduceAdd, Int.reduceSub, Int.reduceMul, Int.reduceToNat, Int.reduceBEq, Int.reduceBNe, df24, TcapO_snd, rslG, memF_eq H, rslM, capF, cap_eta, hu, hy, RW.v, h1', get2G, memF_set H, get2M, hs, he, h2', h3', Slot.cl, sub, put, fillP, List.take_succ_cons, List.take_zero, List.drop_zero]
      exact hR
    · have h3' : (s.cap.ty == 0) = false := by simpa using h3
      simp only [h2, h3, not_true_eq_false, if_false, RC.v, Cap.cl] at hR
      simp (config := { maxSteps := 10000000 }) only [EV1, EV2, EV3, EV4, EV5, EV6, addT, istep, lenR_sl, lenR_ns, lenR_es, pickR, putD, bin1R, un1R, slcR, bnd, capsOf, fillP, S_plain, V_plain, V.cells, S_known, V_known, C.v, blk, setL, setH, eqS, eq1, cmpS, cmp1, isNil, popTo, killT, setT, leT, V.below, C.below, S_below, R.below, V.val, C.val, S_val, R.val, R.takes, vals, shows, List.any_cons, List.any_nil, unnamed, V.kill, V.names, C.names, S_names, R.names, List.set, List.replicate, ↓q_cond_t, ↓q_cond_f, if_true, if_false, reduceCtorEq, rvals, rvC, result, C_known, V.noL, C.noL, S_noL, R.noL, Option.map, true_and, and_true, ge_iff_le, gt_iff_lt, implies_true, q_ite_t, q_ite_f, beq_iff_eq, bne_iff_ne, q_ne, Nat.reduceAdd, Nat.reducePow, Int.reducePow, Nat.reduceMul, Nat.reduceSub, Nat.reduceLeDiff, Nat.reduceLT, Nat.reduceEqDiff, Int.reduceNeg, Int.reduceLT, Int.reduceLE, Int.reduceEq, Int.reduceNe, Int.reduceAdd, Int.reduceSub, Int.reduceMul, Int.reduceToNat, Int.reduceBEq, Int.reduceBNe, df24, TcapO_snd, rslG, memF_eq H, rslM, capF, cap_eta, hu, hy, RW.v, h1', get2G, memF_set H, get2M, hs, he, h2', h3', Slot.cl, sub, put, fillP, List.take_succ_cons, List.take_zero, List.drop_zero]
      exact hR
  · exact hS.elim
noncomputable def TrcapO_snd : Tab := addT 21 (rslG true) (addT 58 get2G (noT))
theorem TrcapO_snd_snd : TrcapO_snd.Snd Try.prog := addT_snd ok21 rrsl_snd (addT_snd ok58 rget2_snd ((noT_snd _)))
theorem rcapO_snd : Snd Try.prog 25 (FSpec.of (capOG true)) := snd_run TrcapO_snd_snd mixed Try.func25 dc25 300 fun args h K hc hS => by
  obtain ⟨a, b, m, rest, rfl, H, hS1⟩ := memF_spec hS
  clear hS
  have hS := hS1
  clear hS1
  unfold capOM at hS
  split at hS
  · rename_i x w
    obtain ⟨c, e, hu, hR⟩ := capF_spec hS
    clear hS
    simp only [List.cons.injEq, and_true] at e
    subst e
    simp only [spec_ok, RW.cap] at hR
    obtain ⟨y, hy⟩ : ∃ y, rsl true m c w 32 = y := ⟨_, rfl⟩
    rw [hy] at hR
    simp only [Cap.cl]
    by_cases h1 : y.e = 0
    case neg =>
      have h1' : (y.e != 0) = true := by simpa using h1
      simp only [h1, not_false_eq_true, if_true, RC.v, Cap.cl, capZ] at hR
      simp (config := { maxSteps := 10000000 }) only [EV1, EV2, EV3, EV4, EV5, EV6, addT, istep, lenR_sl, lenR_ns, lenR_es, pickR, putD, bin1R, un1R, slcR, bnd, capsOf, fillP, S_plain, V_plain, V.cells, S_known, V_known, C.v, blk, setL, setH, eqS, eq1, cmpS, cmp1, isNil, popTo, killT, setT, leT, V.below, C.below, S_below, R.below, V.val, C.val, S_val, R.val, R.takes, vals, shows, List.any_cons, List.any_nil, unnamed, V.kill, V.names, C.names, S_names, R.names, List.set, List.replicate, ↓q_cond_t, ↓q_cond_f, if_true, if_false, reduceCtorEq, rvals, rvC, result, C_known, V.noL, C.noL, S_noL, R.noL, Option.map, true_and, and_true, ge_iff_le, gt_iff_lt, implies_true, q_ite_t, q_ite_f, beq_iff_eq, bne_iff_ne, q_ne, Nat.reduceAdd, Nat.reducePow, Int.reducePow, Nat.reduceMul, Nat.reduceSub, Nat.reduceLeDiff, Nat.reduceLT, Nat.reduceEqDiff, Int.reduceNeg, Int.reduceLT, Int.reduceLE, Int.reduceEq, Int.reduceNe, Int.reduceAdd, Int.reduceSub, Int.reduceMul, Int.reduceToNat, Int.reduceBEq, Int.reduceBNe, df25, TrcapO_snd, rslG, memF_eq H, rslM, capF, cap_eta, hu, hy, RW.v, h1', sub, put, fillP, List.take_succ_cons, List.take_zero, List.drop_zero]
      exact hR
    have h1' : (y.e != 0) = false := by simpa using h1
    obtain ⟨s, hs⟩ : ∃ s, y.m.getV y.s = s := ⟨_, rfl⟩
    obtain ⟨e, he⟩ : ∃ e, y.m.getE y.s = e := ⟨_, rfl⟩
    simp only [h1, not_true_eq_false, if_false, hs, he] at hR
    by_cases h2 : e = 0
    case neg =>
      have h2' : (e != 0) = true := by simpa using h2
      simp only [h2, not_false_eq_true, if_true, RC.v, Cap.cl, capZ] at hR
      simp (config := { maxSteps := 10000000 }) only [EV1, EV2, EV3, EV4, EV5, EV6, addT, istep, lenR_sl, lenR_ns, lenR_es, pickR, putD, bin1R, un1R, slcR, bnd, capsOf, fillP, S_plain, V_plain, V.cells, S_known, V_known, C.v, blk, setL, setH, eqS, eq1, cmpS, cmp1, isNil, popTo, killT, setT, leT, V.below, C.below, S_below, R.below, V.val, C.val, S_val, R.val, R.takes, vals, shows, List.any_cons, List.any_nil, unnamed, V.kill, V.names, C.names, S_names, R.names, List.set, List.replicate, ↓q_cond_t, ↓q_cond_f, if_true, if_false, reduceCtorEq, rvals, rvC, result, C_known, V.noL, C.noL, S_noL, R.noL, Option.map, true_and, and_true, ge_iff_le, gt_iff_lt, implies_true, q_ite_t, q_ite_f, beq_iff_eq, bne_iff_ne, q_ne, Nat.reduceAdd, Nat.reducePow, Int.reducePow, Nat.reduceMul, Nat.reduceSub, Nat.reduceLeDiff, Nat.reduceLT, Nat.reduceEqDiff, Int.reduceNeg, Int.reduceLT, Int.reduceLE, Int.reduceEq, Int.reduceNe, Int.reduceAdd, Int.reduceSub, Int.reduceMul, Int.reduceToNat, Int.reduceBEq, Int.reduceBNe, df25, TrcapO_snd, rslG, memF_eq H, rslM, capF, cap_eta, hu, hy, RW.v, h1', get2G, memF_set H, get2M, hs, he, h2', Slot.cl, sub, put, fillP, List.take_succ_cons, List.take_zero, List.drop_zero]
      exact hR
    have h2' : (e != 0) = false := by simpa using h2
    by_cases h3 : s.cap.ty = 0
    · have h3' : (s.cap.ty == 0) = true := by simpa using h3
      simp only [h2, h3, not_true_eq_false, if_true, if_false, RC.v, Cap.cl, capZ] at hR
      simp (config := { maxSteps := 10000000 }) only [EV1, EV2, EV3, EV4, EV5, EV6, addT, istep, lenR_sl, lenR_ns, lenR_es, pickR, putD, bin1R, un1R, slcR, bnd, capsOf, fillP, S_plain, V_plain, V.cells, S_known, V_known, C.v, blk, setL, setH, eqS, eq1, cmpS, cmp1, isNil, popTo, killT, setT, leT, V.below, C.below, S_below, R.below, V.val, C.val, S_val, R.val, R.takes, vals, shows, List.any_cons, List.any_nil, unnamed, V.kill, V.names, C.names, S_names, R.names, List.set, List.replicate, ↓q_cond_t, ↓q_cond_f, if_true, if_false, reduceCtorEq, rvals, rvC, result, C_known, V.noL, C.noL, S_noL, R.noL, Option.map, true_and, and_true, ge_iff_le, gt_iff_lt, implies_true, q_ite_t, q_ite_f, beq_iff_eq, bne_iff_ne, q_ne, Nat.reduceAdd, Nat.reducePow, Int.reducePow, Nat.reduceMul, Nat.reduceSub, Nat.reduceLeDiff, Nat.reduceLT, Nat.reduceEqDiff, Int.reduceNeg, Int.reduceLT, Int.reduceLE, Int.reduceEq, Int.reduceNe, Int.reduceAdd, Int.reduceSub, Int.reduceMul, Int.reduceToNat, Int.reduceBEq, Int.reduceBNe, df25, TrcapO_snd, rslG, memF_eq H, rslM, capF, cap_eta, hu, hy, RW.v, h1', get2G, memF_set H, get2M, hs, he, h2', h3', Slot.cl, sub, put, fillP, List.take_succ_cons, List.take_zero, List.drop_zero]
      exact hR
    · have h3' : (s.cap.ty == 0) = false := by simpa using h3
      simp only [h2, h3, not_true_eq_false, if_false, RC.v, Cap.cl] at hR
      simp (config := { maxSteps := 10000000 }) only [EV1, EV2, EV3, EV4, EV5, EV6, addT, istep, lenR_sl, lenR_ns, lenR_es, pickR, putD, bin1R, un1R, slcR, bnd, capsOf, fillP, S_plain, V_plain, V.cells, S_known, V_known, C.v, blk, setL, setH, eqS, eq1, cmpS, cmp1, isNil, popTo, killT, setT, leT, V.below, C.below, S_below, R.below, V.val, C.val, S_val, R.val, R.takes, vals, shows, List.any_cons, List.any_nil, unnamed, V.kill, V.names, C.names, S_names, R.names, List.set, List.replicate, ↓q_cond_t, ↓q_cond_f, if_true, if_false, reduceCtorEq, rvals, rvC, result, C_known, V.noL, C.noL, S_noL, R.noL, Option.map, true_and, and_true, ge_iff_le, gt_iff_lt, implies_true, q_ite_t, q_ite_f, beq_iff_eq, bne_iff_ne, q_ne, Nat.reduceAdd, Nat.reducePow, Int.reducePow, Nat.reduceMul, Nat.reduceSub, Nat.reduceLeDiff, Nat.reduceLT, Nat.reduceEqDiff, Int.reduceNeg, Int.reduceLT, Int.reduceLE, Int.reduceEq, Int.reduceNe, Int.reduceAdd, Int.reduceSub, Int.reduceMul, Int.reduceToNat, Int.reduceBEq, Int.reduceBNe, df25, TrcapO_snd, rslG, memF_eq H, rslM, capF, cap_eta, hu, hy, RW.v, h1', get2G, memF_set H, get2M, hs, he, h2', h3', Slot.cl, sub, put, fillP, List.take_succ_cons, List.take_zero, List.drop_zero]
      exact hR
  · exact hS.elim

/-! ### Mask -/
def Cap.mask (c : Cap) (r : Int) : Cap := if c.ty = 4 ∨ c.ty = 5 ∨ c.ty = 8 then { c with rights := Go.bits .and .i64 c.rights r } else c
def cmaskG : List V → List Blk → Res
  | [x, .s (.i .i64 r)], h => capF (fun c => .ok (.agg (c.mask r).cl) [] h) [x]
  | _, _ => .bad
theorem cmask_snd : Snd Try.prog 19 (FSpec.of cmaskG) := snd_run (noT_snd _) mixed Try.func19 dc19 300 fun args h K hc hS => by
  unfold cmaskG at hS
  split at hS
  · rename_i x r
    obtain ⟨c, e, hR⟩ := capF_spec hS
    clear hS
    simp only [List.cons.injEq, and_true] at e
    subst e
    simp only [spec_ok, Cap.mask] at hR
    simp only [Cap.cl]
    by_cases h1 : c.ty = 4
    · have h1' : (c.ty == 4) = true := by simpa using h1
      rw [if_pos (.inl h1)] at hR
      simp only [Cap.cl] at hR
      simp (config := { maxSteps := 10000000 }) only [EV1, EV2, EV3, EV4, EV5, EV6, addT, istep, lenR_sl, lenR_ns, lenR_es, pickR, putD, bin1R, un1R, slcR, bnd, capsOf, fillP, S_plain, V_plain, V.cells, S_known, V_known, C.v, blk, setL, setH, eqS, eq1, cmpS, cmp1, isNil, popTo, killT, setT, leT, V.below, C.below, S_below, R.below, V.val, C.val, S_val, R.val, R.takes, vals, shows, List.any_cons, List.any_nil, unnamed, V.kill, V.names, C.names, S_names, R.names, List.set, List.replicate, ↓q_cond_t, ↓q_cond_f, if_true, if_false, reduceCtorEq, rvals, rvC, result, C_known, V.noL, C.noL, S_noL, R.noL, Option.map, true_and, and_true, ge_iff_le, gt_iff_lt, implies_true, q_ite_t, q_ite_f, beq_iff_eq, bne_iff_ne, q_ne, Nat.reduceAdd, Nat.reducePow, Int.reducePow, Nat.reduceMul, Nat.reduceSub, Nat.reduceLeDiff, Nat.reduceLT, Nat.reduceEqDiff, Int.reduceNeg, Int.reduceLT, Int.reduceLE, Int.reduceEq, Int.reduceNe, Int.reduceAdd, Int.reduceSub, Int.reduceMul, Int.reduceToNat, Int.reduceBEq, Int.reduceBNe, df19, h1', sub, put, fillP, List.take_succ_cons, List.take_zero, List.drop_zero]
      exact hR
    have h1' : (c.ty == 4) = false := by simpa using h1
    by_cases h2 : c.ty = 5
    · have h2' : (c.ty == 5) = true := by simpa using h2
      rw [if_pos (.inr (.inl h2))] at hR
      simp only [Cap.cl] at hR
      simp (config := { maxSteps := 10000000 }) only [EV1, EV2, EV3, EV4, EV5, EV6, addT, istep, lenR_sl, lenR_ns, lenR_es, pickR, putD, bin1R, un1R, slcR, bnd, capsOf, fillP, S_plain, V_plain, V.cells, S_known, V_known, C.v, blk, setL, setH, eqS, eq1, cmpS, cmp1, isNil, popTo, killT, setT, leT, V.below, C.below, S_below, R.below, V.val, C.val, S_val, R.val, R.takes, vals, shows, List.any_cons, List.any_nil, unnamed, V.kill, V.names, C.names, S_names, R.names, List.set, List.replicate, ↓q_cond_t, ↓q_cond_f, if_true, if_false, reduceCtorEq, rvals, rvC, result, C_known, V.noL, C.noL, S_noL, R.noL, Option.map, true_and, and_true, ge_iff_le, gt_iff_lt, implies_true, q_ite_t, q_ite_f, beq_iff_eq, bne_iff_ne, q_ne, Nat.reduceAdd, Nat.reducePow, Int.reducePow, Nat.reduceMul, Nat.reduceSub, Nat.reduceLeDiff, Nat.reduceLT, Nat.reduceEqDiff, Int.reduceNeg, Int.reduceLT, Int.reduceLE, Int.reduceEq, Int.reduceNe, Int.reduceAdd, Int.reduceSub, Int.reduceMul, Int.reduceToNat, Int.reduceBEq, Int.reduceBNe, df19, h1', h2', sub, put, fillP, List.take_succ_cons, List.take_zero, List.drop_zero]
      exact hR
    have h2' : (c.ty == 5) = false := by simpa using h2
    by_cases h3 : c.ty = 8
    · have h3' : (c.ty == 8) = true := by simpa using h3
      rw [if_pos (.inr (.inr h3))] at hR
      simp only [Cap.cl] at hR
      simp (config := { maxSteps := 10000000 }) only [EV1, EV2, EV3, EV4, EV5, EV6, addT, istep, lenR_sl, lenR_ns, lenR_es, pickR, putD, bin1R, un1R, slcR, bnd, capsOf, fillP, S_plain, V_plain, V.cells, S_known, V_known, C.v, blk, setL, setH, eqS, eq1, cmpS, cmp1, isNil, popTo, killT, setT, leT, V.below, C.below, S_below, R.below, V.val, C.val, S_val, R.val, R.takes, vals, shows, List.any_cons, List.any_nil, unnamed, V.kill, V.names, C.names, S_names, R.names, List.set, List.replicate, ↓q_cond_t, ↓q_cond_f, if_true, if_false, reduceCtorEq, rvals, rvC, result, C_known, V.noL, C.noL, S_noL, R.noL, Option.map, true_and, and_true, ge_iff_le, gt_iff_lt, implies_true, q_ite_t, q_ite_f, beq_iff_eq, bne_iff_ne, q_ne, Nat.reduceAdd, Nat.reducePow, Int.reducePow, Nat.reduceMul, Nat.reduceSub, Nat.reduceLeDiff, Nat.reduceLT, Nat.reduceEqDiff, Int.reduceNeg, Int.reduceLT, Int.reduceLE, Int.reduceEq, Int.reduceNe, Int.reduceAdd, Int.reduceSub, Int.reduceMul, Int.reduceToNat, Int.reduceBEq, Int.reduceBNe, df19, h1', h2', h3', sub, put, fillP, List.take_succ_cons, List.take_zero, List.drop_zero]
      exact hR
    have h3' : (c.ty == 8) = false := by simpa using h3
    rw [if_neg (by omega)] at hR
    simp only [Cap.cl] at hR
    simp (config := { maxSteps := 10000000 }) only [EV1, EV2, EV3, EV4, EV5, EV6, addT, istep, lenR_sl, lenR_ns, lenR_es, pickR, putD, bin1R, un1R, slcR, bnd, capsOf, fillP, S_plain, V_plain, V.cells, S_known, V_known, C.v, blk, setL, setH, eqS, eq1, cmpS, cmp1, isNil, popTo, killT, setT, leT, V.below, C.below, S_below, R.below, V.val, C.val, S_val, R.val, R.takes, vals, shows, List.any_cons, List.any_nil, unnamed, V.kill, V.names, C.names, S_names, R.names, List.set, List.replicate, ↓q_cond_t, ↓q_cond_f, if_true, if_false, reduceCtorEq, rvals, rvC, result, C_known, V.noL, C.noL, S_noL, R.noL, Option.map, true_and, and_true, ge_iff_le, gt_iff_lt, implies_true, q_ite_t, q_ite_f, beq_iff_eq, bne_iff_ne, q_ne, Nat.reduceAdd, Nat.reducePow, Int.reducePow, Nat.reduceMul, Nat.reduceSub, Nat.reduceLeDiff, Nat.reduceLT, Nat.reduceEqDiff, Int.reduceNeg, Int.reduceLT, Int.reduceLE, Int.reduceEq, Int.reduceNe, Int.reduceAdd, Int.reduceSub, Int.reduceMul, Int.reduceToNat, Int.reduceBEq, Int.reduceBNe, df19, h1', h2', h3', sub, put, fillP, List.take_succ_cons, List.take_zero, List.drop_zero]
    exact hR
  · exact hS.elim
theorem rcmask_snd : Snd Try.prog 20 (FSpec.of cmaskG) := snd_run (noT_snd _) mixed Try.func20 dc20 300 fun args h K hc hS => by
  unfold cmaskG at hS
  split at hS
  · rename_i x r
    obtain ⟨c, e, hR⟩ := capF_spec hS
    clear hS
    simp only [List.cons.injEq, and_true] at e
    subst e
    simp only [spec_ok, Cap.mask] at hR
    simp only [Cap.cl]
    by_cases h1 : c.ty = 4
    · have h1' : (c.ty == 4) = true := by simpa using h1
      rw [if_pos (.inl h1)] at hR
      simp only [Cap.cl] at hR
      simp (config := { maxSteps := 10000000 }) only [EV1, EV2, EV3, EV4, EV5, EV6, addT, istep, lenR_sl, lenR_ns, lenR_es, pickR, putD, bin1R, un1R, slcR, bnd, capsOf, fillP, S_plain, V_plain, V.cells, S_known, V_known, C.v, blk, setL, setH, eqS, eq1, cmpS, cmp1, isNil, popTo, killT, setT, leT, V.below, C.below, S_below, R.below, V.val, C.val, S_val, R.val, R.takes, vals, shows, List.any_cons, List.any_nil, unnamed, V.kill, V.names, C.names, S_names, R.names, List.set, List.replicate, ↓q_cond_t, ↓q_cond_f, if_true, if_false, reduceCtorEq, rvals, rvC, result, C_known, V.noL, C.noL, S_noL, R.noL, Option.map, true_and, and_true, ge_iff_le, gt_iff_lt, implies_true, q_ite_t, q_ite_f, beq_iff_eq, bne_iff_ne, q_ne, Nat.reduceAdd, Nat.reducePow, Int.reducePow, Nat.reduceMul, Nat.reduceSub, Nat.reduceLeDiff, Nat.reduceLT, Nat.reduceEqDiff, Int.reduceNeg, Int.reduceLT, Int.reduceLE, Int.reduceEq, Int.reduceNe, Int.reduceAdd, Int.reduceSub, Int.reduceMul, Int.reduceToNat, Int.reduceBEq, Int.reduceBNe, df20, h1', sub, put, fillP, List.take_succ_cons, List.take_zero, List.drop_zero]
      exact hR
    have h1' : (c.ty == 4) = false := by simpa using h1
    by_cases h2 : c.ty = 5
    · have h2' : (c.ty == 5) = true := by simpa using h2
      rw [if_pos (.inr (.inl h2))] at hR
      simp only [Cap.cl] at hR
      simp (config := { maxSteps := 10000000 }) only [EV1, EV2, EV3, EV4, EV5, EV6, addT, istep, lenR_sl, lenR_ns, lenR_es, pickR, putD, bin1R, un1R, slcR, bnd, capsOf, fillP, S_plain, V_plain, V.cells, S_known, V_known, C.v, blk, setL, setH, eqS, eq1, cmpS, cmp1, isNil, popTo, killT, setT, leT, V.below, C.below, S_below, R.below, V.val, C.val, S_val, R.val, R.takes, vals, shows, List.any_cons, List.any_nil, unnamed, V.kill, V.names, C.names, S_names, R.names, List.set, List.replicate, ↓q_cond_t, ↓q_cond_f, if_true, if_false, reduceCtorEq, rvals, rvC, result, C_known, V.noL, C.noL, S_noL, R.noL, Option.map, true_and, and_true, ge_iff_le, gt_iff_lt, implies_true, q_ite_t, q_ite_f, beq_iff_eq, bne_iff_ne, q_ne, Nat.reduceAdd, Nat.reducePow, Int.reducePow, Nat.reduceMul, Nat.reduceSub, Nat.reduceLeDiff, Nat.reduceLT, Nat.reduceEqDiff, Int.reduceNeg, Int.reduceLT, Int.reduceLE, Int.reduceEq, Int.reduceNe, Int.reduceAdd, Int.reduceSub, Int.reduceMul, Int.reduceToNat, Int.reduceBEq, Int.reduceBNe, df20, h1', h2', sub, put, fillP, List.take_succ_cons, List.take_zero, List.drop_zero]
      exact hR
    have h2' : (c.ty == 5) = false := by simpa using h2
    by_cases h3 : c.ty = 8
    · have h3' : (c.ty == 8) = true := by simpa using h3
      rw [if_pos (.inr (.inr h3))] at hR
      simp only [Cap.cl] at hR
      simp (config := { maxSteps := 10000000 }) only [EV1, EV2, EV3, EV4, EV5, EV6, addT, istep, lenR_sl, lenR_ns, lenR_es, pickR, putD, bin1R, un1R, slcR, bnd, capsOf, fillP, S_plain, V_plain, V.cells, S_known, V_known, C.v, blk, setL, setH, eqS, eq1, cmpS, cmp1, isNil, popTo, killT, setT, leT, V.below, C.below, S_below, R.below, V.val, C.val, S_val, R.val, R.takes, vals, shows, List.any_cons, List.any_nil, unnamed, V.kill, V.names, C.names, S_names, R.names, List.set, List.replicate, ↓q_cond_t, ↓q_cond_f, if_true, if_false, reduceCtorEq, rvals, rvC, result, C_known, V.noL, C.noL, S_noL, R.noL, Option.map, true_and, and_true, ge_iff_le, gt_iff_lt, implies_true, q_ite_t, q_ite_f, beq_iff_eq, bne_iff_ne, q_ne, Nat.reduceAdd, Nat.reducePow, Int.reducePow, Nat.reduceMul, Nat.reduceSub, Nat.reduceLeDiff, Nat.reduceLT, Nat.reduceEqDiff, Int.reduceNeg, Int.reduceLT, Int.reduceLE, Int.reduceEq, Int.reduceNe, Int.reduceAdd, Int.reduceSub, Int.reduceMul, Int.reduceToNat, Int.reduceBEq, Int.reduceBNe, df20, h1', h2', h3', sub, put, fillP, List.take_succ_cons, List.take_zero, List.drop_zero]
      exact hR
    have h3' : (c.ty == 8) = false := by simpa using h3
    rw [if_neg (by omega)] at hR
    simp only [Cap.cl] at hR
    simp (config := { maxSteps := 10000000 }) only [EV1, EV2, EV3, EV4, EV5, EV6, addT, istep, lenR_sl, lenR_ns, lenR_es, pickR, putD, bin1R, un1R, slcR, bnd, capsOf, fillP, S_plain, V_plain, V.cells, S_known, V_known, C.v, blk, setL, setH, eqS, eq1, cmpS, cmp1, isNil, popTo, killT, setT, leT, V.below, C.below, S_below, R.below, V.val, C.val, S_val, R.val, R.takes, vals, shows, List.any_cons, List.any_nil, unnamed, V.kill, V.names, C.names, S_names, R.names, List.set, List.replicate, ↓q_cond_t, ↓q_cond_f, if_true, if_false, reduceCtorEq, rvals, rvC, result, C_known, V.noL, C.noL, S_noL, R.noL, Option.map, true_and, and_true, ge_iff_le, gt_iff_lt, implies_true, q_ite_t, q_ite_f, beq_iff_eq, bne_iff_ne, q_ne, Nat.reduceAdd, Nat.reducePow, Int.reducePow, Nat.reduceMul, Nat.reduceSub, Nat.reduceLeDiff, Nat.reduceLT, Nat.reduceEqDiff, Int.reduceNeg, Int.reduceLT, Int.reduceLE, Int.reduceEq, Int.reduceNe, Int.reduceAdd, Int.reduceSub, Int.reduceMul, Int.reduceToNat, Int.reduceBEq, Int.reduceBNe, df20, h1', h2', h3', sub, put, fillP, List.take_succ_cons, List.take_zero, List.drop_zero]
    exact hR
  · exact hS.elim
def outerC : Cap := ⟨2, 1024, 2, 0, 5, 3, 0, 0, 0, 0, 0⟩
def innerC : Cap := ⟨2, 1040, 1, 0, 0, 0, 0, 0, 0, 0, 0⟩
def outerCG : List V → List Blk → Res
  | [], h => .ok (.agg outerC.cl) [] h
  | _, _ => .bad
theorem outer_snd : Snd Try.prog 48 (FSpec.of outerCG) := snd_run (noT_snd _) mixed Try.func48 dc48 100 fun args h K hc hS => by
  unfold outerCG at hS
  split at hS
  · simp only [spec_ok, outerC, Cap.cl] at hS
    simp (config := { maxSteps := 10000000 }) only [EV1, EV2, EV3, EV4, EV5, EV6, addT, istep, lenR_sl, lenR_ns, lenR_es, pickR, putD, bin1R, un1R, slcR, bnd, capsOf, fillP, S_plain, V_plain, V.cells, S_known, V_known, C.v, blk, setL, setH, eqS, eq1, cmpS, cmp1, isNil, popTo, killT, setT, leT, V.below, C.below, S_below, R.below, V.val, C.val, S_val, R.val, R.takes, vals, shows, List.any_cons, List.any_nil, unnamed, V.kill, V.names, C.names, S_names, R.names, List.set, List.replicate, ↓q_cond_t, ↓q_cond_f, if_true, if_false, reduceCtorEq, rvals, rvC, result, C_known, V.noL, C.noL, S_noL, R.noL, Option.map, true_and, and_true, ge_iff_le, gt_iff_lt, implies_true, q_ite_t, q_ite_f, beq_iff_eq, bne_iff_ne, q_ne, Nat.reduceAdd, Nat.reducePow, Int.reducePow, Nat.reduceMul, Nat.reduceSub, Nat.reduceLeDiff, Nat.reduceLT, Nat.reduceEqDiff, Int.reduceNeg, Int.reduceLT, Int.reduceLE, Int.reduceEq, Int.reduceNe, Int.reduceAdd, Int.reduceSub, Int.reduceMul, Int.reduceToNat, Int.reduceBEq, Int.reduceBNe, df48, sub, put, fillP, List.take_succ_cons, List.take_zero, List.drop_zero]
    exact hS
  · exact hS.elim
def innerCG : List V → List Blk → Res
  | [], h => .ok (.agg innerC.cl) [] h
  | _, _ => .bad
theorem inner_snd : Snd Try.prog 47 (FSpec.of innerCG) := snd_run (noT_snd _) mixed Try.func47 dc47 100 fun args h K hc hS => by
  unfold innerCG at hS
  split at hS
  · simp only [spec_ok, innerC, Cap.cl] at hS
    simp (config := { maxSteps := 10000000 }) only [EV1, EV2, EV3, EV4, EV5, EV6, addT, istep, lenR_sl, lenR_ns, lenR_es, pickR, putD, bin1R, un1R, slcR, bnd, capsOf, fillP, S_plain, V_plain, V.cells, S_known, V_known, C.v, blk, setL, setH, eqS, eq1, cmpS, cmp1, isNil, popTo, killT, setT, leT, V.below, C.below, S_below, R.below, V.val, C.val, S_val, R.val, R.takes, vals, shows, List.any_cons, List.any_nil, unnamed, V.kill, V.names, C.names, S_names, R.names, List.set, List.replicate, ↓q_cond_t, ↓q_cond_f, if_true, if_false, reduceCtorEq, rvals, rvC, result, C_known, V.noL, C.noL, S_noL, R.noL, Option.map, true_and, and_true, ge_iff_le, gt_iff_lt, implies_true, q_ite_t, q_ite_f, beq_iff_eq, bne_iff_ne, q_ne, Nat.reduceAdd, Nat.reducePow, Int.reducePow, Nat.reduceMul, Nat.reduceSub, Nat.reduceLeDiff, Nat.reduceLT, Nat.reduceEqDiff, Int.reduceNeg, Int.reduceLT, Int.reduceLE, Int.reduceEq, Int.reduceNe, Int.reduceAdd, Int.reduceSub, Int.reduceMul, Int.reduceToNat, Int.reduceBEq, Int.reduceBNe, df47, sub, put, fillP, List.take_succ_cons, List.take_zero, List.drop_zero]
    exact hS
  · exact hS.elim
end Go.Proofs.Ytdlloccodmdnnaa

/- The machine's memory: Copy; the document's Fill, Copy, Dump. -/
namespace Go.Proofs.Ytdlloccodmdnnaa
open Go.D
set_option linter.all false
set_option maxRecDepth 100000
set_option maxHeartbeats 4000000

/-- A part of the words. -/
def M.part (m : M) (x k : Nat) : List Int := (m.w.drop x).take k
theorem M.part_len {m : M} {x k : Nat} (h : x + k ≤ m.w.length) : (m.part x k).length = k := by simp [M.part]; omega
theorem M.part_u {m : M} {x k : Nat} : ∀ v, v ∈ m.part x k → u64 v := fun v hv => m.u v (List.mem_of_mem_drop (List.mem_of_mem_take hv))
theorem nth_part {m : M} {x k i : Nat} (h : i < k) : nth 0 (m.part x k) i = nth 0 m.w (x + i) := by
  unfold M.part
  generalize m.w = l
  induction x generalizing l with
  | zero =>
    simp only [List.drop_zero, Nat.zero_add]
    induction k generalizing l i with
    | zero => omega
    | succ k ih =>
      cases l with
      | nil => rfl
      | cons x l =>
        cases i with
        | zero => rfl
        | succ i => exact ih (l := l) (by omega)
  | succ a ih =>
    cases l with
    | nil => simp [nth]
    | cons x l =>
      rw [List.drop_succ_cons, ih, show a + 1 + i = (a + i) + 1 by omega]; rfl
def M.copy (m : M) (x y k : Nat) : M := (m.lay y (m.part x k)).tick (2 * k)
def copyM (b : Nat) (m : M) (st : M → List Blk) : List V → Res
  | [.s (.i .i64 x), .s (.i .i64 y), .s (.i .i64 k)] => .br (m.has x k && m.has y k) (.ok (.s (.i .i64 0)) [] (st (m.copy x.toNat y.toNat k.toNat))) (.ok (.s (.i .i64 20)) [] (st m))
  | _ => .bad
noncomputable def copyG := memF copyM
end Go.Proofs.Ytdlloccodmdnnaa

