/- Package objs: endpoints, in code and document. -/
import Derived.Test.YtdlloccodmdnnaaZ10
import Derived.Test.YtdlloccodmdnnaaZ18
/- Package objs: endpoints, in code and document. -/
namespace Go.Proofs.Ytdlloccodmdnnaa
open Go.D
set_option linter.all false
set_option maxRecDepth 100000
set_option maxHeartbeats 8000000

structure Qu where
  s : Int
  h : Int
  t : Int
def Qu.cl (q : Qu) : List S := [.i .i64 q.s, .i .i64 q.h, .i .i64 q.t]
def quZ : Qu := ⟨0, 0, 0⟩
def quF (f : Qu → Res) : List V → Res
  | [.agg [.i .i64 a, .i .i64 b, .i .i64 c]] => f ⟨a, b, c⟩
  | _ => .bad
theorem quF_spec {f : Qu → Res} {args : List V} {K : V → List Blk → Prop} (h : (quF f args).spec K) : ∃ q : Qu, args = [.agg q.cl] ∧ (f q).spec K := by
  unfold quF at h
  split at h
  · exact ⟨_, rfl, h⟩
  · exact h.elim
theorem qu_eta (q : Qu) : (⟨q.s, q.h, q.t⟩ : Qu) = q := rfl
/-- Right, as the document asks it, and as the code does. -/
def Qu.B (q : Qu) : Bool := cond (q.s == 0) (q.h == 0 && q.t == 0) (in3 q.s 1 2 && (in3 q.h 1 65535 && in3 q.t 1 65535))
def Qu.C (q : Qu) : Bool := cond (q.s == 0) (q.h == 0 && q.t == 0) (decide (q.s ≤ 2) && (decide (0 < q.h) && decide (0 < q.t)))
def Qu.w (q : Qu) : Int := q.s + 4 * q.h + 262144 * q.t
def quOf (w : Int) : Qu := ⟨w % 4, w / 4 % 65536, w / 262144 % 65536⟩
def quOk (w : Int) : Bool := decide (w < 17179869184) && (quOf w).B
theorem Qu.B_u {q : Qu} (h : q.B = true) : 0 ≤ q.s ∧ q.s ≤ 2 ∧ 0 ≤ q.h ∧ q.h ≤ 65535 ∧ 0 ≤ q.t ∧ q.t ≤ 65535 := by
  unfold Qu.B at h
  cases h0 : (q.s == 0) <;> rw [h0] at h <;> simp only [cond_true, cond_false, Bool.and_eq_true, in3_iff, beq_iff_eq] at h h0 <;> omega
theorem Qu.w_u {q : Qu} (h : q.B = true) : u64 q.w := by
  have := Qu.B_u h
  simp only [u64, Qu.w]; omega
theorem Qu.CB {q : Qu} (h1 : 0 ≤ q.s) (h2 : q.h ≤ 65535 ∧ q.t ≤ 65535) : q.C = q.B := by
  obtain ⟨s, a, b⟩ := q
  simp only [Qu.C, Qu.B] at *
  cases h0 : (s == 0)
  · rw [Bool.eq_iff_iff]
    simp only [cond_false, Bool.and_eq_true, in3_iff, decide_eq_true_eq]
    have h3 : ¬ s = 0 := by simpa using h0
    omega
  · rfl
theorem quOf_C {w : Int} (hw : u64 w) : (quOf w).C = (quOf w).B := by
  simp only [u64] at hw
  exact Qu.CB (show 0 ≤ w % 4 by omega) (show w / 4 % 65536 ≤ 65535 ∧ w / 262144 % 65536 ≤ 65535 by omega)
theorem quOf_w {w : Int} (hw : u64 w) : ((quOf w).w = w) ↔ w < 17179869184 := by
  simp only [u64] at hw
  simp only [Qu.w, quOf]; omega
def quCG (args : List V) (h : List Blk) : Res := quF (fun q => .ok (.s (.b q.C)) [] h) args
def quBG (args : List V) (h : List Blk) : Res := quF (fun q => .ok (.s (.b q.B)) [] h) args
theorem quC_snd : Snd Try.prog 72 (FSpec.of quCG) := snd_run (noT_snd _) mixed Try.func72 dc72 200 fun args h K hc hS => by
  obtain ⟨q, rfl, hR⟩ := quF_spec hS
  clear hS
  simp only [spec_ok, Qu.C] at hR
  simp only [Qu.cl]
  cases h0 : (q.s == 0)
  · rw [h0] at hR
    simp (config := { maxSteps := 10000000 }) only [run_drx, run_xd, run_xq, run_xg, run_xb, EV1, EV2, EV3, EV4, EV5, EV6, addT, istep, lenR_sl, lenR_ns, lenR_es, pickR, putD, bin1R, un1R, slcR, bnd, capsOf, fillP, S_plain, V_plain, V.cells, S_known, V_known, C.v, blk, setL, setH, eqS, eq1, cmpS, cmp1, isNil, popTo, killT, setT, leT, V.below, C.below, S_below, R.below, V.val, C.val, S_val, R.val, R.takes, vals, shows, List.any_cons, List.any_nil, unnamed, V.kill, V.names, C.names, S_names, R.names, List.set, List.replicate, ↓q_cond_t, ↓q_cond_f, if_true, if_false, reduceCtorEq, rvals, rvC, result, C_known, V.noL, C.noL, S_noL, R.noL, Option.map, true_and, and_true, ge_iff_le, gt_iff_lt, implies_true, q_ite_t, q_ite_f, beq_iff_eq, bne_iff_ne, q_ne, Nat.reduceAdd, Nat.reducePow, Int.reducePow, Nat.reduceMul, Nat.reduceSub, Nat.reduceLeDiff, Nat.reduceLT, Nat.reduceEqDiff, Int.reduceNeg, Int.reduceLT, Int.reduceLE, Int.reduceEq, Int.reduceNe, Int.reduceAdd, Int.reduceSub, Int.reduceMul, Int.reduceToNat, Int.reduceBEq, Int.reduceBNe, df72, h0, Bool.and_assoc, sub, put, fillP, List.take_succ_cons, List.take_zero, List.drop_zero]
    exact hR
  · rw [h0] at hR
    simp (config := { maxSteps := 10000000 }) only [run_drx, run_xd, run_xq, run_xg, run_xb, EV1, EV2, EV3, EV4, EV5, EV6, addT, istep, lenR_sl, lenR_ns, lenR_es, pickR, putD, bin1R, un1R, slcR, bnd, capsOf, fillP, S_plain, V_plain, V.cells, S_known, V_known, C.v, blk, setL, setH, eqS, eq1, cmpS, cmp1, isNil, popTo, killT, setT, leT, V.below, C.below, S_below, R.below, V.val, C.val, S_val, R.val, R.takes, vals, shows, List.any_cons, List.any_nil, unnamed, V.kill, V.names, C.names, S_names, R.names, List.set, List.replicate, ↓q_cond_t, ↓q_cond_f, if_true, if_false, reduceCtorEq, rvals, rvC, result, C_known, V.noL, C.noL, S_noL, R.noL, Option.map, true_and, and_true, ge_iff_le, gt_iff_lt, implies_true, q_ite_t, q_ite_f, beq_iff_eq, bne_iff_ne, q_ne, Nat.reduceAdd, Nat.reducePow, Int.reducePow, Nat.reduceMul, Nat.reduceSub, Nat.reduceLeDiff, Nat.reduceLT, Nat.reduceEqDiff, Int.reduceNeg, Int.reduceLT, Int.reduceLE, Int.reduceEq, Int.reduceNe, Int.reduceAdd, Int.reduceSub, Int.reduceMul, Int.reduceToNat, Int.reduceBEq, Int.reduceBNe, df72, h0, sub, put, fillP, List.take_succ_cons, List.take_zero, List.drop_zero]
    exact hR
noncomputable def To3 : Tab := addT 121 rinG (noT)
theorem To3_snd : To3.Snd Try.prog := addT_snd ok121 rin_snd ((noT_snd _))
theorem quB_snd : Snd Try.prog 105 (FSpec.of quBG) := snd_run To3_snd mixed Try.func105 dc105 200 fun args h K hc hS => by
  obtain ⟨q, rfl, hR⟩ := quF_spec hS
  clear hS
  simp only [spec_ok, Qu.B] at hR
  simp only [Qu.cl]
  cases h0 : (q.s == 0)
  · rw [h0] at hR
    simp (config := { maxSteps := 10000000 }) only [run_drx, run_xd, run_xq, run_xg, run_xb, EV1, EV2, EV3, EV4, EV5, EV6, addT, istep, lenR_sl, lenR_ns, lenR_es, pickR, putD, bin1R, un1R, slcR, bnd, capsOf, fillP, S_plain, V_plain, V.cells, S_known, V_known, C.v, blk, setL, setH, eqS, eq1, cmpS, cmp1, isNil, popTo, killT, setT, leT, V.below, C.below, S_below, R.below, V.val, C.val, S_val, R.val, R.takes, vals, shows, List.any_cons, List.any_nil, unnamed, V.kill, V.names, C.names, S_names, R.names, List.set, List.replicate, ↓q_cond_t, ↓q_cond_f, if_true, if_false, reduceCtorEq, rvals, rvC, result, C_known, V.noL, C.noL, S_noL, R.noL, Option.map, true_and, and_true, ge_iff_le, gt_iff_lt, implies_true, q_ite_t, q_ite_f, beq_iff_eq, bne_iff_ne, q_ne, Nat.reduceAdd, Nat.reducePow, Int.reducePow, Nat.reduceMul, Nat.reduceSub, Nat.reduceLeDiff, Nat.reduceLT, Nat.reduceEqDiff, Int.reduceNeg, Int.reduceLT, Int.reduceLE, Int.reduceEq, Int.reduceNe, Int.reduceAdd, Int.reduceSub, Int.reduceMul, Int.reduceToNat, Int.reduceBEq, Int.reduceBNe, df105, To3, rinG, h0, Bool.and_assoc, sub, put, fillP, List.take_succ_cons, List.take_zero, List.drop_zero]
    exact hR
  · rw [h0] at hR
    simp (config := { maxSteps := 10000000 }) only [run_drx, run_xd, run_xq, run_xg, run_xb, EV1, EV2, EV3, EV4, EV5, EV6, addT, istep, lenR_sl, lenR_ns, lenR_es, pickR, putD, bin1R, un1R, slcR, bnd, capsOf, fillP, S_plain, V_plain, V.cells, S_known, V_known, C.v, blk, setL, setH, eqS, eq1, cmpS, cmp1, isNil, popTo, killT, setT, leT, V.below, C.below, S_below, R.below, V.val, C.val, S_val, R.val, R.takes, vals, shows, List.any_cons, List.any_nil, unnamed, V.kill, V.names, C.names, S_names, R.names, List.set, List.replicate, ↓q_cond_t, ↓q_cond_f, if_true, if_false, reduceCtorEq, rvals, rvC, result, C_known, V.noL, C.noL, S_noL, R.noL, Option.map, true_and, and_true, ge_iff_le, gt_iff_lt, implies_true, q_ite_t, q_ite_f, beq_iff_eq, bne_iff_ne, q_ne, Nat.reduceAdd, Nat.reducePow, Int.reducePow, Nat.reduceMul, Nat.reduceSub, Nat.reduceLeDiff, Nat.reduceLT, Nat.reduceEqDiff, Int.reduceNeg, Int.reduceLT, Int.reduceLE, Int.reduceEq, Int.reduceNe, Int.reduceAdd, Int.reduceSub, Int.reduceMul, Int.reduceToNat, Int.reduceBEq, Int.reduceBNe, df105, h0, sub, put, fillP, List.take_succ_cons, List.take_zero, List.drop_zero]
    exact hR
def queuedG : List V → List Blk → Res
  | [.s (.i .i64 a), .s (.i .i64 b), .s (.i .i64 c)], h => .ob (0 ≤ a ∧ a ≤ 3 ∧ 0 ≤ b ∧ b ≤ 65535 ∧ 0 ≤ c ∧ c ≤ 65535) (.ok (.s (.i .u64 (Qu.w ⟨a, b, c⟩))) [] h)
  | _, _ => .bad
theorem min2 : min 2 IntKind.u64.bits = 2 := rfl
theorem min18 : min 18 IntKind.u64.bits = 18 := rfl
theorem queued_snd : Snd Try.prog 106 (FSpec.of queuedG) := snd_run (noT_snd _) mixed Try.func106 dc106 100 fun args h K hc hS => by
  unfold queuedG at hS
  split at hS
  · rename_i a b c
    obtain ⟨hb, hS⟩ := hS
    simp only [spec_ok, Qu.w] at hS
    have x1 : IntKind.u64.wrap a = a := wrapu (by omega) (by omega)
    have x2 : IntKind.u64.wrap b = b := wrapu (by omega) (by omega)
    have x3 : IntKind.u64.wrap c = c := wrapu (by omega) (by omega)
    have x4 : IntKind.u64.wrap (b * 4) = b * 4 := wrapu (by omega) (by omega)
    have x5 : IntKind.u64.wrap (c * 262144) = c * 262144 := wrapu (by omega) (by omega)
    have x6 : IntKind.u64.wrap (a + b * 4) = a + b * 4 := wrapu (by omega) (by omega)
    have x7 : IntKind.u64.wrap (a + b * 4 + c * 262144) = a + 4 * b + 262144 * c := by rw [wrapu (by omega) (by omega)]; omega
    simp (config := { maxSteps := 10000000 }) only [run_drx, run_xd, run_xq, run_xg, run_xb, EV1, EV2, EV3, EV4, EV5, EV6, addT, istep, lenR_sl, lenR_ns, lenR_es, pickR, putD, bin1R, un1R, slcR, bnd, capsOf, fillP, S_plain, V_plain, V.cells, S_known, V_known, C.v, blk, setL, setH, eqS, eq1, cmpS, cmp1, isNil, popTo, killT, setT, leT, V.below, C.below, S_below, R.below, V.val, C.val, S_val, R.val, R.takes, vals, shows, List.any_cons, List.any_nil, unnamed, V.kill, V.names, C.names, S_names, R.names, List.set, List.replicate, ↓q_cond_t, ↓q_cond_f, if_true, if_false, reduceCtorEq, rvals, rvC, result, C_known, V.noL, C.noL, S_noL, R.noL, Option.map, true_and, and_true, ge_iff_le, gt_iff_lt, implies_true, q_ite_t, q_ite_f, beq_iff_eq, bne_iff_ne, q_ne, Nat.reduceAdd, Nat.reducePow, Int.reducePow, Nat.reduceMul, Nat.reduceSub, Nat.reduceLeDiff, Nat.reduceLT, Nat.reduceEqDiff, Int.reduceNeg, Int.reduceLT, Int.reduceLE, Int.reduceEq, Int.reduceNe, Int.reduceAdd, Int.reduceSub, Int.reduceMul, Int.reduceToNat, Int.reduceBEq, Int.reduceBNe, df106, min2, min18, x1, x2, x3, x4, x5, x6, x7]
    exact hS
  · exact hS.elim

/-! ### Queue, SetQueue -/
def M.qgE (m : M) (a : Int) : Int := if otB m a 4 then (if quOk (m.at a) then 0 else 90) else 20
def M.qgV (m : M) (a : Int) : Qu := if otB m a 4 && quOk (m.at a) then quOf (m.at a) else quZ
def M.qgX (m : M) (a : Int) : M := if otB m a 4 then m.tick 1 else m
def M.qsE (m : M) (a : Int) (q : Qu) : Int := if otB m a 4 then (if q.B then 0 else 90) else 20
def M.qsX (m : M) (a : Int) (q : Qu) : M := if otB m a 4 && q.B then (m.put a.toNat q.w).tick 1 else m
def qgetM (b : Nat) (m : M) (st : M → List Blk) : List V → Res
  | [.s (.i .i64 a)] => .ok (.tup [.agg (m.qgV a).cl, .s (.i .i64 (m.qgE a))]) [] (st (m.qgX a))
  | _ => .bad
noncomputable def qgetG := memF qgetM
/-- Numbers of the machine's. -/
def sml (n : Int) : Prop := n < 9223372036854775808
def Qu.up (q : Qu) : Prop := sml q.s ∧ sml q.h ∧ sml q.t
def qsetM (b : Nat) (m : M) (st : M → List Blk) : List V → Res
  | [.s (.i .i64 a), x] => quF (fun q => .ob q.up (.ok (.s (.i .i64 (m.qsE a q))) [] (st (m.qsX a q)))) [x]
  | _ => .bad
noncomputable def qsetG := memF qsetM
noncomputable def ToQ : Tab := addT 69 otG (addT 102 otG (addT 70 readG (addT 100 readG (addT 78 writeG (addT 91 writeG (addT 71 ounpG (addT 80 opackG (addT 72 quCG (addT 105 quBG (addT 106 queuedG (noT)))))))))))
theorem ToQ_snd : ToQ.Snd Try.prog := addT_snd ok69 ot_snd (addT_snd ok102 rot_snd (addT_snd ok70 mread_snd (addT_snd ok100 rread_snd (addT_snd ok78 mwrite_snd (addT_snd ok91 rwrite_snd (addT_snd ok71 ounp_snd (addT_snd ok80 opack_snd (addT_snd ok72 quC_snd (addT_snd ok105 quB_snd (addT_snd ok106 queued_snd ((noT_snd _))))))))))))
theorem rqget_snd : Snd Try.prog 84 (FSpec.of qgetG) := snd_run ToQ_snd mixed Try.func84 dc84 300 fun args h K hc hS => by
  obtain ⟨a, b, m, rest, rfl, H, hS1⟩ := memF_spec hS
  clear hS
  have hS := hS1
  clear hS1
  unfold qgetM at hS
  split at hS
  · rename_i a
    simp only [spec_ok, M.qgE, M.qgV, M.qgX] at hS
    have n4 : (0 : Int) < 4 ∧ (4 : Int) ≤ 64 := by decide
    cases ht : otB m a 4 with
    | false =>
      simp only [ht, Bool.false_and, Bool.false_eq_true, if_false, setM_self H, quZ, Qu.cl] at hS
      simp (config := { maxSteps := 10000000 }) only [run_drx, run_xd, run_xq, run_xg, run_xb, EV1, EV2, EV3, EV4, EV5, EV6, addT, istep, lenR_sl, lenR_ns, lenR_es, pickR, putD, bin1R, un1R, slcR, bnd, capsOf, fillP, S_plain, V_plain, V.cells, S_known, V_known, C.v, blk, setL, setH, eqS, eq1, cmpS, cmp1, isNil, popTo, killT, setT, leT, V.below, C.below, S_below, R.below, V.val, C.val, S_val, R.val, R.takes, vals, shows, List.any_cons, List.any_nil, unnamed, V.kill, V.names, C.names, S_names, R.names, List.set, List.replicate, ↓q_cond_t, ↓q_cond_f, if_true, if_false, reduceCtorEq, rvals, rvC, result, C_known, V.noL, C.noL, S_noL, R.noL, Option.map, true_and, and_true, ge_iff_le, gt_iff_lt, implies_true, q_ite_t, q_ite_f, beq_iff_eq, bne_iff_ne, q_ne, Nat.reduceAdd, Nat.reducePow, Int.reducePow, Nat.reduceMul, Nat.reduceSub, Nat.reduceLeDiff, Nat.reduceLT, Nat.reduceEqDiff, Int.reduceNeg, Int.reduceLT, Int.reduceLE, Int.reduceEq, Int.reduceNe, Int.reduceAdd, Int.reduceSub, Int.reduceMul, Int.reduceToNat, Int.reduceBEq, Int.reduceBNe, df84, ToQ, otG, memF_eq H, otM, n4, setM_self H, ht, put, fillP, sub, List.take_succ_cons, List.take_zero, List.drop_zero]
      exact hS
    | true =>
      simp only [ht, Bool.true_and, if_true] at hS
      have hb := otB_iff.1 ht
      have h0 : m.has a 1 = true := M.has_of (by omega)
      have hu := m.at_u a
      obtain ⟨w, hw⟩ : ∃ w, m.at a = w := ⟨_, rfl⟩
      rw [hw] at hu hS
      have hu2 : 0 ≤ w ∧ w < 18446744073709551616 := hu
      have t1 : w.tmod 4 = w % 4 := Int.tmod_eq_emod_of_nonneg (by omega)
      have t2 : (w / 4).tmod 65536 = w / 4 % 65536 := Int.tmod_eq_emod_of_nonneg (by omega)
      have t3 : (w / 262144).tmod 65536 = w / 262144 % 65536 := Int.tmod_eq_emod_of_nonneg (by omega)
      have i1 : IntKind.i64.wrap (w % 4) = w % 4 := wrap64 (by omega) (by omega)
      have i2 : IntKind.i64.wrap (w / 4 % 65536) = w / 4 % 65536 := wrap64 (by omega) (by omega)
      have i3 : IntKind.i64.wrap (w / 262144 % 65536) = w / 262144 % 65536 := wrap64 (by omega) (by omega)
      have hq := quOf_w hu
      simp only [quOf] at hq
      have o1 : 0 ≤ w % 4 ∧ w % 4 ≤ 3 ∧ 0 ≤ w / 4 % 65536 ∧ w / 4 % 65536 ≤ 65535 ∧ 0 ≤ w / 262144 % 65536 ∧ w / 262144 % 65536 ≤ 65535 := by omega
      cases hB : (quOf w).B with
      | false =>
        have hk : quOk w = false := by simp only [quOk, hB, Bool.and_false]
        simp only [hk, Bool.false_eq_true, if_false, quZ, Qu.cl] at hS
        simp only [quOf] at hB
        simp (config := { maxSteps := 10000000 }) only [run_drx, run_xd, run_xq, run_xg, run_xb, EV1, EV2, EV3, EV4, EV5, EV6, addT, istep, lenR_sl, lenR_ns, lenR_es, pickR, putD, bin1R, un1R, slcR, bnd, capsOf, fillP, S_plain, V_plain, V.cells, S_known, V_known, C.v, blk, setL, setH, eqS, eq1, cmpS, cmp1, isNil, popTo, killT, setT, leT, V.below, C.below, S_below, R.below, V.val, C.val, S_val, R.val, R.takes, vals, shows, List.any_cons, List.any_nil, unnamed, V.kill, V.names, C.names, S_names, R.names, List.set, List.replicate, ↓q_cond_t, ↓q_cond_f, if_true, if_false, reduceCtorEq, rvals, rvC, result, C_known, V.noL, C.noL, S_noL, R.noL, Option.map, true_and, and_true, ge_iff_le, gt_iff_lt, implies_true, q_ite_t, q_ite_f, beq_iff_eq, bne_iff_ne, q_ne, Nat.reduceAdd, Nat.reducePow, Int.reducePow, Nat.reduceMul, Nat.reduceSub, Nat.reduceLeDiff, Nat.reduceLT, Nat.reduceEqDiff, Int.reduceNeg, Int.reduceLT, Int.reduceLE, Int.reduceEq, Int.reduceNe, Int.reduceAdd, Int.reduceSub, Int.reduceMul, Int.reduceToNat, Int.reduceBEq, Int.reduceBNe, df84, ToQ, otG, memF_eq H, otM, n4, setM_self H, ht, readG, readM, h0, hw, min2, min18, t1, t2, t3, i1, i2, i3, quBG, quF, hB, put, fillP, sub, List.take_succ_cons, List.take_zero, List.drop_zero]
        exact hS
      | true =>
        by_cases hlt : w < 17179869184
        · have hk : quOk w = true := by simp only [quOk, hB, Bool.and_true, decide_eq_true_eq]; exact hlt
          simp only [hk, if_true, quOf, Qu.cl] at hS
          simp only [quOf] at hB
          have hq2 : ((Qu.w ⟨w % 4, w / 4 % 65536, w / 262144 % 65536⟩) != w) = false := by simpa using hq.2 hlt
          simp (config := { maxSteps := 10000000 }) only [run_drx, run_xd, run_xq, run_xg, run_xb, EV1, EV2, EV3, EV4, EV5, EV6, addT, istep, lenR_sl, lenR_ns, lenR_es, pickR, putD, bin1R, un1R, slcR, bnd, capsOf, fillP, S_plain, V_plain, V.cells, S_known, V_known, C.v, blk, setL, setH, eqS, eq1, cmpS, cmp1, isNil, popTo, killT, setT, leT, V.below, C.below, S_below, R.below, V.val, C.val, S_val, R.val, R.takes, vals, shows, List.any_cons, List.any_nil, unnamed, V.kill, V.names, C.names, S_names, R.names, List.set, List.replicate, ↓q_cond_t, ↓q_cond_f, if_true, if_false, reduceCtorEq, rvals, rvC, result, C_known, V.noL, C.noL, S_noL, R.noL, Option.map, true_and, and_true, ge_iff_le, gt_iff_lt, implies_true, q_ite_t, q_ite_f, beq_iff_eq, bne_iff_ne, q_ne, Nat.reduceAdd, Nat.reducePow, Int.reducePow, Nat.reduceMul, Nat.reduceSub, Nat.reduceLeDiff, Nat.reduceLT, Nat.reduceEqDiff, Int.reduceNeg, Int.reduceLT, Int.reduceLE, Int.reduceEq, Int.reduceNe, Int.reduceAdd, Int.reduceSub, Int.reduceMul, Int.reduceToNat, Int.reduceBEq, Int.reduceBNe, df84, ToQ, otG, memF_eq H, otM, n4, setM_self H, ht, readG, readM, h0, hw, min2, min18, t1, t2, t3, i1, i2, i3, quBG, quF, hB, queuedG, o1, hq2, put, fillP, sub, List.take_succ_cons, List.take_zero, List.drop_zero]
          exact hS
        · have hk : quOk w = false := by simp only [quOk, hlt, decide_false, Bool.false_and]
          simp only [hk, Bool.false_eq_true, if_false, quZ, Qu.cl] at hS
          simp only [quOf] at hB
          have hq2 : ((Qu.w ⟨w % 4, w / 4 % 65536, w / 262144 % 65536⟩) != w) = true := by simpa using fun e => hlt (hq.1 e)
          simp (config := { maxSteps := 10000000 }) only [run_drx, run_xd, run_xq, run_xg, run_xb, EV1, EV2, EV3, EV4, EV5, EV6, addT, istep, lenR_sl, lenR_ns, lenR_es, pickR, putD, bin1R, un1R, slcR, bnd, capsOf, fillP, S_plain, V_plain, V.cells, S_known, V_known, C.v, blk, setL, setH, eqS, eq1, cmpS, cmp1, isNil, popTo, killT, setT, leT, V.below, C.below, S_below, R.below, V.val, C.val, S_val, R.val, R.takes, vals, shows, List.any_cons, List.any_nil, unnamed, V.kill, V.names, C.names, S_names, R.names, List.set, List.replicate, ↓q_cond_t, ↓q_cond_f, if_true, if_false, reduceCtorEq, rvals, rvC, result, C_known, V.noL, C.noL, S_noL, R.noL, Option.map, true_and, and_true, ge_iff_le, gt_iff_lt, implies_true, q_ite_t, q_ite_f, beq_iff_eq, bne_iff_ne, q_ne, Nat.reduceAdd, Nat.reducePow, Int.reducePow, Nat.reduceMul, Nat.reduceSub, Nat.reduceLeDiff, Nat.reduceLT, Nat.reduceEqDiff, Int.reduceNeg, Int.reduceLT, Int.reduceLE, Int.reduceEq, Int.reduceNe, Int.reduceAdd, Int.reduceSub, Int.reduceMul, Int.reduceToNat, Int.reduceBEq, Int.reduceBNe, df84, ToQ, otG, memF_eq H, otM, n4, setM_self H, ht, readG, readM, h0, hw, min2, min18, t1, t2, t3, i1, i2, i3, quBG, quF, hB, queuedG, o1, hq2, put, fillP, sub, List.take_succ_cons, List.take_zero, List.drop_zero]
          exact hS
  · exact hS.elim
theorem rqset_snd : Snd Try.prog 64 (FSpec.of qsetG) := snd_run ToQ_snd mixed Try.func64 dc64 300 fun args h K hc hS => by
  obtain ⟨a, b, m, rest, rfl, H, hS1⟩ := memF_spec hS
  clear hS
  have hS := hS1
  clear hS1
  unfold qsetM at hS
  split at hS
  · rename_i a x
    obtain ⟨q, e, hup, hR⟩ := quF_spec hS
    clear hS
    simp only [List.cons.injEq, and_true] at e
    subst e
    simp only [spec_ok, M.qsE, M.qsX] at hR
    have n4 : (0 : Int) < 4 ∧ (4 : Int) ≤ 64 := by decide
    simp only [Qu.cl]
    cases ht : otB m a 4 with
    | false =>
      simp only [ht, Bool.false_and, Bool.false_eq_true, if_false, setM_self H] at hR
      simp (config := { maxSteps := 10000000 }) only [run_drx, run_xd, run_xq, run_xg, run_xb, EV1, EV2, EV3, EV4, EV5, EV6, addT, istep, lenR_sl, lenR_ns, lenR_es, pickR, putD, bin1R, un1R, slcR, bnd, capsOf, fillP, S_plain, V_plain, V.cells, S_known, V_known, C.v, blk, setL, setH, eqS, eq1, cmpS, cmp1, isNil, popTo, killT, setT, leT, V.below, C.below, S_below, R.below, V.val, C.val, S_val, R.val, R.takes, vals, shows, List.any_cons, List.any_nil, unnamed, V.kill, V.names, C.names, S_names, R.names, List.set, List.replicate, ↓q_cond_t, ↓q_cond_f, if_true, if_false, reduceCtorEq, rvals, rvC, result, C_known, V.noL, C.noL, S_noL, R.noL, Option.map, true_and, and_true, ge_iff_le, gt_iff_lt, implies_true, q_ite_t, q_ite_f, beq_iff_eq, bne_iff_ne, q_ne, Nat.reduceAdd, Nat.reducePow, Int.reducePow, Nat.reduceMul, Nat.reduceSub, Nat.reduceLeDiff, Nat.reduceLT, Nat.reduceEqDiff, Int.reduceNeg, Int.reduceLT, Int.reduceLE, Int.reduceEq, Int.reduceNe, Int.reduceAdd, Int.reduceSub, Int.reduceMul, Int.reduceToNat, Int.reduceBEq, Int.reduceBNe, df64, ToQ, otG, memF_eq H, otM, n4, setM_self H, ht]
      exact hR
    | true =>
      simp only [ht, Bool.true_and, if_true] at hR
      have hb := otB_iff.1 ht
      have h0 : m.has a 1 = true := M.has_of (by omega)
      cases hB : q.B with
      | false =>
        simp only [hB, Bool.false_eq_true, if_false, setM_self H] at hR
        simp (config := { maxSteps := 10000000 }) only [run_drx, run_xd, run_xq, run_xg, run_xb, EV1, EV2, EV3, EV4, EV5, EV6, addT, istep, lenR_sl, lenR_ns, lenR_es, pickR, putD, bin1R, un1R, slcR, bnd, capsOf, fillP, S_plain, V_plain, V.cells, S_known, V_known, C.v, blk, setL, setH, eqS, eq1, cmpS, cmp1, isNil, popTo, killT, setT, leT, V.below, C.below, S_below, R.below, V.val, C.val, S_val, R.val, R.takes, vals, shows, List.any_cons, List.any_nil, unnamed, V.kill, V.names, C.names, S_names, R.names, List.set, List.replicate, ↓q_cond_t, ↓q_cond_f, if_true, if_false, reduceCtorEq, rvals, rvC, result, C_known, V.noL, C.noL, S_noL, R.noL, Option.map, true_and, and_true, ge_iff_le, gt_iff_lt, implies_true, q_ite_t, q_ite_f, beq_iff_eq, bne_iff_ne, q_ne, Nat.reduceAdd, Nat.reducePow, Int.reducePow, Nat.reduceMul, Nat.reduceSub, Nat.reduceLeDiff, Nat.reduceLT, Nat.reduceEqDiff, Int.reduceNeg, Int.reduceLT, Int.reduceLE, Int.reduceEq, Int.reduceNe, Int.reduceAdd, Int.reduceSub, Int.reduceMul, Int.reduceToNat, Int.reduceBEq, Int.reduceBNe, df64, ToQ, otG, memF_eq H, otM, n4, setM_self H, ht, quBG, quF, qu_eta, hB, sub, List.take_succ_cons, List.take_zero, List.drop_zero]
        exact hR
      | true =>
        simp only [hB, if_true] at hR
        have hu := Qu.w_u hB
        have o1 := Qu.B_u hB
        have o2 : q.s ≤ 3 := by omega
        simp (config := { maxSteps := 10000000 }) only [run_drx, run_xd, run_xq, run_xg, run_xb, EV1, EV2, EV3, EV4, EV5, EV6, addT, istep, lenR_sl, lenR_ns, lenR_es, pickR, putD, bin1R, un1R, slcR, bnd, capsOf, fillP, S_plain, V_plain, V.cells, S_known, V_known, C.v, blk, setL, setH, eqS, eq1, cmpS, cmp1, isNil, popTo, killT, setT, leT, V.below, C.below, S_below, R.below, V.val, C.val, S_val, R.val, R.takes, vals, shows, List.any_cons, List.any_nil, unnamed, V.kill, V.names, C.names, S_names, R.names, List.set, List.replicate, ↓q_cond_t, ↓q_cond_f, if_true, if_false, reduceCtorEq, rvals, rvC, result, C_known, V.noL, C.noL, S_noL, R.noL, Option.map, true_and, and_true, ge_iff_le, gt_iff_lt, implies_true, q_ite_t, q_ite_f, beq_iff_eq, bne_iff_ne, q_ne, Nat.reduceAdd, Nat.reducePow, Int.reducePow, Nat.reduceMul, Nat.reduceSub, Nat.reduceLeDiff, Nat.reduceLT, Nat.reduceEqDiff, Int.reduceNeg, Int.reduceLT, Int.reduceLE, Int.reduceEq, Int.reduceNe, Int.reduceAdd, Int.reduceSub, Int.reduceMul, Int.reduceToNat, Int.reduceBEq, Int.reduceBNe, df64, ToQ, otG, memF_eq H, otM, n4, setM_self H, ht, quBG, quF, qu_eta, hB, queuedG, o1, o2, writeG, writeM, h0, hu, sub, List.take_succ_cons, List.take_zero, List.drop_zero]
        exact hR
  · exact hS.elim
end Go.Proofs.Ytdlloccodmdnnaa

